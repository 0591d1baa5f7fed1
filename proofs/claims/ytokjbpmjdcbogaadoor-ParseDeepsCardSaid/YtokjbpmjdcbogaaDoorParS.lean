/- The law ParseDeeps in plain form. -/
import Derived.Test.YtokjbpmjdcbogaaDoorParT
namespace Go.Proofs.YtokjbpmjdcbogaaDoor.Abs.Par
open Go Go.RowKit Wri
set_option linter.unusedVariables false
set_option linter.unusedSimpArgs false
def rpB (o : ByteArray) (k : Nat) : ByteArray := ⟨((List.replicate k o.data.toList).flatten).toArray⟩
theorem ziu (s o : ByteArray) (k : Nat) : s ++ rpB o k ++ o = s ++ rpB o (k + 1) := zc6 (by
 rw [zad, zad, zad]
 show s.data.toList ++ (List.replicate k o.data.toList).flatten ++ o.data.toList = s.data.toList ++ (List.replicate (k + 1) o.data.toList).flatten
 rw [List.replicate_succ', List.flatten_append, List.append_assoc]
 simp only [List.flatten_cons, List.flatten_nil, List.append_nil])
theorem zdc (o : ByteArray) : ∀ k, (rpB o k).size = k * o.size
 | 0 => by rw [Nat.zero_mul]; rfl
 | k + 1 => by
  have := congrArg ByteArray.size (ziu (ByteArray.mk #[]) o k)
  simp only [ByteArray.size_append] at this
  rw [zdc o k] at this
  have e : (ByteArray.mk #[]).size = 0 := rfl
  rw [Nat.succ_mul]; omega
theorem zok {body : ByteArray × Int → Option (Sum (ByteArray × Int) (Sum Bool ByteArray))} {o : ByteArray} {k : Nat} (s : ByteArray) (hb : ∀ (t : ByteArray) (i : Nat), i < k → t.size ≤ s.size + k * o.size → body (t, (i : Int)) = some (.inl (t ++ o, ((i + 1 : Nat) : Int))))
  (he : ∀ t, body (t, (k : Int)) = some (.inr (.inr t))) : iter body (s, 0) = some (.inr (s ++ rpB o k)) := by
 have h : ∀ d i, k - i = d → i ≤ k → iter body (s ++ rpB o i, (i : Int)) = some (.inr (s ++ rpB o k)) := by
  intro d
  induction d with
  | zero =>
   intro i hd hi
   have : i = k := by omega
   subst this
   exact z58 (he _)
  | succ d ih =>
   intro i hd hi
   have hle : i * o.size ≤ k * o.size := Nat.mul_le_mul_right _ hi
   rw [z9x (hb _ i (by omega) (by simp only [ByteArray.size_append, zdc]; omega)), ziu]
   exact ih (i + 1) (by omega) (by omega)
 have := h k 0 (by omega) (Nat.zero_le _)
 rwa [show s ++ rpB o 0 = s from zc6 (by rw [zad]; show s.data.toList ++ [] = _; exact List.append_nil _)] at this
theorem zh1 {a b : ByteArray} (h : a.size + b.size ≤ 1000000) : scat a b = some (a ++ b) := by unfold scat; rw [if_pos (by omega)]
abbrev hA : ByteArray := ByteArray.mk #[112, 114, 111, 99, 32, 112, 123]
abbrev oW : ByteArray := ByteArray.mk #[119, 104, 105, 108, 101, 40, 49, 61, 61, 49, 41, 123]
def dT (w v : Nat) : ByteArray := match w with
 | 0 => hA ++ ByteArray.mk #[120, 61] ++ rpB (ByteArray.mk #[45]) (20 + v) ++ ByteArray.mk #[49, 59, 125]
 | 1 => hA ++ ByteArray.mk #[120, 61] ++ rpB (ByteArray.mk #[40]) (20 + v) ++ ByteArray.mk #[49] ++ rpB (ByteArray.mk #[41]) (20 + v) ++ ByteArray.mk #[59, 125]
 | _ => hA ++ rpB oW (20 + v) ++ rpB (ByteArray.mk #[125]) (20 + v) ++ ByteArray.mk #[125]
def dP (w : Nat) : Int := match w with | 0 => 33 | 1 => 33 | _ => 306
def dOk (w v : Nat) : Bool := let z := gF (dT w v); if 20 + v ≤ 24 then z.2.2 == 0 else z.2.2 == 6 && z.2.1 == dP w
theorem zpt : ([0, 1, 2].all fun w => [0, 1, 2, 3, 4, 5, 6, 7, 8].all fun v => dOk w v) = true := by kernel_rfl
theorem d_ok {w v : Nat} (hw : w < 3) (hv : v < 9) : dOk w v = true := by
 have h1 : w ∈ [0, 1, 2] := by
  have : w = 0 ∨ w = 1 ∨ w = 2 := by omega
  rcases this with rfl | rfl | rfl <;> simp
 have h2 : v ∈ [0, 1, 2, 3, 4, 5, 6, 7, 8] := by
  have : v = 0 ∨ v = 1 ∨ v = 2 ∨ v = 3 ∨ v = 4 ∨ v = 5 ∨ v = 6 ∨ v = 7 ∨ v = 8 := by omega
  rcases this with rfl | rfl | rfl | rfl | rfl | rfl | rfl | rfl | rfl <;> simp
 exact List.all_eq_true.1 (List.all_eq_true.1 zpt w h1) v h2
theorem zmw {w v : Nat} (hw : w < 3) (hv : v < 9) {P : Int} (hP : P = dP w) {t : ByteArray} (ht : t = dT w v) (hs : t.size ≤ 1000) :
    (z33 t >>= fun v9 => if (decide ((20 + (v : Int)) ≤ 24)) then (((z2t >>= fun v10 => if v10 then (some (v9.2.2 == 0)) else (some false) : Option Bool) >>= fun j2 => some j2))
     else (z2t >>= fun v11 => if v11 then (if (v9.2.2 == 6) then (some (v9.2.1 == P)) else (some false)) else (some false))) = some true := by
  have h := d_ok hw hv
  subst ht
  rw [zeh (by omega), zmx, zkb]
  unfold dOk at h
  generalize gF (dT w v) = z at h
  subst hP
  simp only [Option.bind_eq_bind, Option.bind_some, if_true]
  by_cases h1 : 20 + v ≤ 24
  · rw [if_pos h1] at h
    have e : decide ((20 : Int) + (v : Int) ≤ 24) = true := by simp; omega
    simp only [e, if_true, Option.bind_some, h]
  · rw [if_neg h1] at h
    have e : decide ((20 : Int) + (v : Int) ≤ 24) = false := by simp; omega
    simp only [Bool.and_eq_true] at h
    simp only [e, Bool.false_eq_true, if_false, h.1, if_true, h.2]
theorem law_ParseDeeps (a0 a1 : Int) : z5w a0 a1 = some true := by
 unfold z5w
 have hu : ∀ a, 0 ≤ IntKind.u64.wrap a := fun a => by simp [IntKind.wrap, IntKind.signed, IntKind.bits]; omega
 have hr : ∀ a m : Int, 0 < m → ∃ v : Nat, rem (IntKind.u64.wrap a) m = some (v : Int) ∧ (v : Int) < m := fun a m hm => by
  refine ⟨((IntKind.u64.wrap a) % m).toNat, ?_, ?_⟩
  ·have := Int.emod_nonneg (IntKind.u64.wrap a) (by omega : m ≠ 0)
   unfold rem; rw [if_neg (by omega), Int.tmod_eq_emod_of_nonneg (hu a)]
   congr 1; omega
  ·have := Int.emod_lt_of_pos (IntKind.u64.wrap a) hm
   have := Int.emod_nonneg (IntKind.u64.wrap a) (by omega : m ≠ 0)
   omega
 obtain ⟨v, hv, hv9⟩ := hr a0 9 (by decide)
 obtain ⟨w, hw, hw3⟩ := hr a1 3 (by decide)
 have hk : IntKind.i64.wrap (20 + IntKind.i64.wrap (v : Int)) = 20 + (v : Int) := by rw [w64 (n := (v : Int)) (by omega) (by omega), w64 (by omega) (by omega)]
 have hkn : (20 : Int) + (v : Int) = ((20 + v : Nat) : Int) := by omega
 have step : ∀ (t o : ByteArray) (i : Nat), i < 20 + v → t.size ≤ 2000 → o.size ≤ 100 → ((if (decide ((i : Int) < IntKind.i64.wrap (20 + IntKind.i64.wrap (v : Int)))) = true then (scat t o >>= fun v6 => some (.inl (v6, (IntKind.i64.wrap ((i : Int) + 1))))) else (some (.inr (.inr t)))) : Option (Sum (ByteArray × Int) (Sum Bool ByteArray))) = some (.inl (t ++ o, ((i + 1 : Nat) : Int))) := fun t o i hi ht ho => by
  rw [hk, if_pos (by simp; omega), zh1 (by omega)]
  simp only [Option.bind_eq_bind, Option.bind_some, zmy (i := i) (by omega)]
 have stop : ∀ (t o : ByteArray), ((if (decide (((20 + v : Nat) : Int) < IntKind.i64.wrap (20 + IntKind.i64.wrap (v : Int)))) = true then (scat t o >>= fun v6 => some (.inl (v6, (IntKind.i64.wrap (((20 + v : Nat) : Int) + 1))))) else (some (.inr (.inr t)))) : Option (Sum (ByteArray × Int) (Sum Bool ByteArray))) = some (.inr (.inr t)) := fun t o => by
  rw [hk, if_neg (by simp)]
 have rp : ∀ {body : ByteArray × Int → Option (Sum (ByteArray × Int) (Sum Bool ByteArray))} {o : ByteArray} (s : ByteArray), s.size ≤ 600 → o.size ≤ 12 → (∀ (t : ByteArray) (i : Int), body (t, i) = if (decide (i < IntKind.i64.wrap (20 + IntKind.i64.wrap (v : Int)))) = true then (scat t o >>= fun v6 => some (.inl (v6, (IntKind.i64.wrap (i + 1))))) else (some (.inr (.inr t)))) → iter body (s, 0) = some (.inr (s ++ rpB o (20 + v))) := fun {body o} s hs ho hb => by
  have hmul : (20 + v) * o.size ≤ 29 * 12 := Nat.mul_le_mul (by omega) ho
  exact zok s (fun t i hi ht => by rw [hb]; exact step t o i hi (by omega) (by omega)) (fun t => by rw [hb]; exact stop t o)
 have hc1 : scat hA (ByteArray.mk #[120, 61]) = some (hA ++ ByteArray.mk #[120, 61]) := zh1 (by decide)
 have sz1 : (hA ++ ByteArray.mk #[120, 61]).size = 9 := by decide
 have sz0 : hA.size = 7 := by decide
 have s1 : ∀ b : UInt8, (ByteArray.mk #[b]).size = 1 := fun _ => rfl
 rw [hv]
 simp only [Option.bind_eq_bind, Option.bind_some]
 rw [hw]
 simp only [Option.bind_some]
 have : w = 0 ∨ w = 1 ∨ w = 2 := by omega
 rcases this with rfl | rfl | rfl
 ·have i1 : idx [(ByteArray.mk #[45]), (ByteArray.mk #[40]), oW] (IntKind.i64.wrap ((0 : Nat) : Int)) = some (ByteArray.mk #[45]) := rfl
  have d1 : decide (IntKind.i64.wrap ((0 : Nat) : Int) < 2) = true := by decide
  have d2 : (IntKind.i64.wrap ((0 : Nat) : Int) == 0) = true := by decide
  have l1 := rp (body := z49 (v : Int) (ByteArray.mk #[45])) (o := ByteArray.mk #[45]) (hA ++ ByteArray.mk #[120, 61]) (by omega) (by decide) (fun t i => rfl)
  have c2 : scat (hA ++ ByteArray.mk #[120, 61] ++ rpB (ByteArray.mk #[45]) (20 + v)) (ByteArray.mk #[49, 59, 125]) = some (dT 0 v) := zh1 (by rw [ByteArray.size_append, zdc, s1, sz1]; have : (ByteArray.mk #[49, 59, 125]).size = 3 := rfl; omega)
  rw [i1]
  simp only [Option.bind_some]
  rw [if_pos d1, hc1]
  simp only [Option.bind_some]
  rw [l1]
  simp only [Option.bind_some, Sum.elim_inr]
  rw [if_pos d2, c2]
  simp only [Option.bind_some, hk]
  have := zmw (w := 0) (v := v) (by decide) (by omega) (P := 33) rfl rfl (by show (hA ++ ByteArray.mk #[120, 61] ++ rpB (ByteArray.mk #[45]) (20 + v) ++ ByteArray.mk #[49, 59, 125]).size ≤ 1000; rw [ByteArray.size_append, ByteArray.size_append, zdc, s1, sz1]; have : (ByteArray.mk #[49, 59, 125]).size = 3 := rfl; omega)
  exact this
 ·have i1 : idx [(ByteArray.mk #[45]), (ByteArray.mk #[40]), oW] (IntKind.i64.wrap ((1 : Nat) : Int)) = some (ByteArray.mk #[40]) := rfl
  have d1 : decide (IntKind.i64.wrap ((1 : Nat) : Int) < 2) = true := by decide
  have d2 : ¬ ((IntKind.i64.wrap ((1 : Nat) : Int) == 0) = true) := by decide
  have d3 : (IntKind.i64.wrap ((1 : Nat) : Int) == 1) = true := by decide
  have l1 := rp (body := z49 (v : Int) (ByteArray.mk #[40])) (o := ByteArray.mk #[40]) (hA ++ ByteArray.mk #[120, 61]) (by omega) (by decide) (fun t i => rfl)
  have z2 : (hA ++ ByteArray.mk #[120, 61] ++ rpB (ByteArray.mk #[40]) (20 + v)).size = 29 + v := by rw [ByteArray.size_append, zdc, s1, sz1]; omega
  have c2 : scat (hA ++ ByteArray.mk #[120, 61] ++ rpB (ByteArray.mk #[40]) (20 + v)) (ByteArray.mk #[49]) = some _ := zh1 (by rw [z2, s1]; omega)
  have z3 : (hA ++ ByteArray.mk #[120, 61] ++ rpB (ByteArray.mk #[40]) (20 + v) ++ ByteArray.mk #[49]).size = 30 + v := by rw [ByteArray.size_append, z2, s1]; omega
  have l3 := rp (body := z4w (v : Int)) (o := ByteArray.mk #[41]) (hA ++ ByteArray.mk #[120, 61] ++ rpB (ByteArray.mk #[40]) (20 + v) ++ ByteArray.mk #[49]) (by omega) (by decide) (fun t i => rfl)
  have z4 : (hA ++ ByteArray.mk #[120, 61] ++ rpB (ByteArray.mk #[40]) (20 + v) ++ ByteArray.mk #[49] ++ rpB (ByteArray.mk #[41]) (20 + v)).size = 50 + 2 * v := by rw [ByteArray.size_append, z3, zdc, s1]; omega
  have e2 : (ByteArray.mk #[59, 125]).size = 2 := rfl
  have c4 : scat (hA ++ ByteArray.mk #[120, 61] ++ rpB (ByteArray.mk #[40]) (20 + v) ++ ByteArray.mk #[49] ++ rpB (ByteArray.mk #[41]) (20 + v)) (ByteArray.mk #[59, 125]) = some (dT 1 v) := zh1 (by omega)
  rw [i1]
  simp only [Option.bind_some]
  rw [if_pos d1, hc1]
  simp only [Option.bind_some]
  rw [l1]
  simp only [Option.bind_some, Sum.elim_inr]
  rw [if_neg d2, if_pos d3, c2]
  simp only [Option.bind_some]
  rw [l3]
  simp only [Option.bind_some, Sum.elim_inr]
  rw [c4]
  simp only [Option.bind_some, hk]
  have := zmw (w := 1) (v := v) (by decide) (by omega) (P := 33) rfl rfl (by show (hA ++ ByteArray.mk #[120, 61] ++ rpB (ByteArray.mk #[40]) (20 + v) ++ ByteArray.mk #[49] ++ rpB (ByteArray.mk #[41]) (20 + v) ++ ByteArray.mk #[59, 125]).size ≤ 1000; rw [ByteArray.size_append, z4]; omega)
  exact this
 ·have i1 : idx [(ByteArray.mk #[45]), (ByteArray.mk #[40]), oW] (IntKind.i64.wrap ((2 : Nat) : Int)) = some oW := rfl
  have d1 : ¬ (decide (IntKind.i64.wrap ((2 : Nat) : Int) < 2) = true) := by decide
  have d2 : ¬ ((IntKind.i64.wrap ((2 : Nat) : Int) == 0) = true) := by decide
  have d3 : ¬ ((IntKind.i64.wrap ((2 : Nat) : Int) == 1) = true) := by decide
  have eo : oW.size = 12 := rfl
  have l1 := rp (body := z4x (v : Int) oW) (o := oW) hA (by omega) (by decide) (fun t i => rfl)
  have z2 : (hA ++ rpB oW (20 + v)).size = 7 + (20 + v) * 12 := by rw [ByteArray.size_append, zdc, eo, sz0]
  have l3 := rp (body := z4j (v : Int)) (o := ByteArray.mk #[125]) (hA ++ rpB oW (20 + v)) (by omega) (by decide) (fun t i => rfl)
  have z4 : (hA ++ rpB oW (20 + v) ++ rpB (ByteArray.mk #[125]) (20 + v)).size = 7 + (20 + v) * 12 + (20 + v) := by rw [ByteArray.size_append, z2, zdc, s1]; omega
  have c4 : scat (hA ++ rpB oW (20 + v) ++ rpB (ByteArray.mk #[125]) (20 + v)) (ByteArray.mk #[125]) = some (dT 2 v) := zh1 (by rw [z4, s1]; omega)
  rw [i1]
  simp only [Option.bind_some]
  rw [if_neg d1]
  rw [l1]
  simp only [Option.bind_some, Sum.elim_inr]
  rw [if_neg d2, if_neg d3]
  rw [l3]
  simp only [Option.bind_some, Sum.elim_inr]
  rw [c4]
  simp only [Option.bind_some, hk]
  have := zmw (w := 2) (v := v) (by decide) (by omega) (P := 306) rfl rfl (by show (hA ++ rpB oW (20 + v) ++ rpB (ByteArray.mk #[125]) (20 + v) ++ ByteArray.mk #[125]).size ≤ 1000; rw [ByteArray.size_append, z4, s1]; omega)
  exact this
end Go.Proofs.YtokjbpmjdcbogaaDoor.Abs.Par
