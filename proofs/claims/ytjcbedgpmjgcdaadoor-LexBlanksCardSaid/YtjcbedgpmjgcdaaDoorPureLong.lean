/- Two thousand words may be, and not one more; names of up to twelve signs; numbers up to the greatest one: the laws' pure statements. -/
import Derived.Test.YtjcbedgpmjgcdaaDoorPLexx8
import Derived.Test.YtjcbedgpmjgcdaaDoorPLexx10
import Derived.Test.YtjcbedgpmjgcdaaDoorLexC
namespace Go.Proofs.YtjcbedgpmjgcdaaDoor.PureLong
open Go.RowKit Go.Proofs.YtjcbedgpmjgcdaaDoor.Hand Go.Proofs.YtjcbedgpmjgcdaaDoorW.PrintWords Go.Proofs.YtjcbedgpmjgcdaaDoorW.PrintLast Go.Proofs.YtjcbedgpmjgcdaaDoorW.PrintMore
open LexA LexB LexC PLex

/-! ### LexLong -/
theorem lex_semis : ∀ (n p : Nat), ∃ l : List Tok, l.length = n ∧ lexS (List.replicate n 59) p = (l, none) := by
  intro n
  induction n with
  | zero => intro p; exact ⟨[], rfl, lexS_nil p⟩
  | succ n ih =>
    intro p
    obtain ⟨l, hl, e⟩ := ih (p + 1)
    have hs : signL (59 :: List.replicate n 59) = 1 := by
      cases n <;> rfl
    have hw : word1 (59 :: List.replicate n 59) = .ok ⟨3, 1, 0⟩ := by
      rw [word1_cons, if_neg (by decide), if_neg (by decide), hs]; rfl
    refine ⟨⟨3, [59], 0, p⟩ :: l, by simp [hl], ?_⟩
    rw [List.replicate_succ, lexS_ok rfl hw]
    show (_ :: (lexS (List.replicate n 59) (p + 1)).1, (lexS (List.replicate n 59) (p + 1)).2) = _
    rw [e]; rfl
theorem nums_list (xs : List Int) : (strOfNums xs).data.toList = xs.map fun n => UInt8.ofNat n.toNat := by simp [strOfNums]
theorem long_l0 (n : Nat) (hn : n ≤ 100000) (r : Bool) (H : Ev (fun k => (lex_Lex.f k (strOfNums (List.replicate n 59))).bind fun bt242 => (if (n : Int) > 2000 then ((jetsamlaw01_reads.f k).bind fun t247 => (if t247 = true then (if bt242.2.2 = 4 then (if bt242.2.1 = (n : Int) then (some ((bt242.1.length : Int) == 0)) else (some false)) else (some false)) else (some false))) else ((jetsamlaw01_reads.f k).bind fun t248 => (if t248 = true then (if bt242.2.2 = 0 then (if bt242.2.1 = 0 then (some ((bt242.1.length : Int) == (n : Int))) else (some false)) else (some false)) else (some false))))) r) :
    ∀ (d i : Nat), n - i = d → i ≤ n → Ev (fun k => jetsamlaw01_LexLong.l0 k (n : Int) (List.replicate i 59 ++ List.replicate (n - i) 0) (i : Int)) r := by
  intro d
  induction d with
  | zero =>
    intro i hd hi
    have : i = n := by omega
    subst this
    refine Ev.step (fun k => ?_) H
    simp only [jetsamlaw01_LexLong.l0]
    rw [if_neg (by omega)]
    simp
  | succ d ih =>
    intro i hd hi
    have hw : wrap64 ((i : Int) + 1) = ((i + 1 : Nat) : Int) := by rw [wrap_id (by omega) (by omega)]; omega
    refine Ev.step (f := fun k => jetsamlaw01_LexLong.l0 k (n : Int) (List.replicate (i + 1) 59 ++ List.replicate (n - (i + 1)) 0) ((i + 1 : Nat) : Int)) (fun k => ?_) (ih (i + 1) (by omega) (by omega))
    simp only [jetsamlaw01_LexLong.l0]
    rw [if_pos (by omega), if_pos (by omega), if_pos (by simp; omega), hw]
    congr 1
    obtain ⟨m, hm⟩ : ∃ m, n - i = m + 1 := ⟨n - i - 1, by omega⟩
    rw [hm, show n - (i + 1) = m from by omega, List.replicate_succ, Int.toNat_natCast]
    rw [List.set_append_right _ _ (by simp)]
    simp [List.replicate_succ']
theorem mod_u (a m : Int) (hm : 0 < m) (hm2 : m ≤ 1000) : ∃ j : Nat, (j : Int) < m ∧ wrap64 (Int.tmod (IntKind.u64.wrap a) m) = (j : Int) := by
  rw [u64_wrap]
  have h0 : 0 ≤ a % 18446744073709551616 := Int.emod_nonneg _ (by omega)
  rw [Int.tmod_eq_emod_of_nonneg h0]
  have h1 := Int.emod_nonneg (a % 18446744073709551616) (show m ≠ 0 by omega)
  have h2 := Int.emod_lt_of_pos (a % 18446744073709551616) hm
  refine ⟨(a % 18446744073709551616 % m).toNat, by omega, ?_⟩
  rw [wrap_id (by omega) (by omega)]; omega
theorem mod10 (a : Int) : ∃ j : Nat, j < 10 ∧ wrap64 (1995 + (wrap64 (Int.tmod (IntKind.u64.wrap a) 10))) = ((1995 + j : Nat) : Int) := by
  obtain ⟨j, hj, e⟩ := mod_u a 10 (by omega) (by omega)
  exact ⟨j, by omega, by rw [e, wrap_id (by omega) (by omega)]; omega⟩
theorem long_pure : jetsamlaw01_LexLong.Pure := by
  intro a ha
  obtain ⟨j, hj, e⟩ := mod10 a
  refine Ev.rounds (r := true) ?_
  unfold jetsamlaw01_LexLong.f
  rw [e]
  generalize hn : 1995 + j = n
  refine Ev.congr (f := fun k => jetsamlaw01_LexLong.l0 k (n : Int) (List.replicate 0 59 ++ List.replicate (n - 0) 0) ((0 : Nat) : Int)) (fun k => ?_) (long_l0 n (by omega) true ?_ n 0 (by omega) (by omega))
  · rw [if_pos (by omega), if_pos (by omega)]; simp
  · have hsz : (strOfNums (List.replicate n 59)).data.toList = List.replicate n 59 := by rw [nums_list]; simp
    have hs2 : (strOfNums (List.replicate n 59)).size = n := by rw [← size_list, hsz]; simp
    have hl := lex_ev (strOfNums (List.replicate n 59)) (by omega)
    obtain ⟨l, hlen, el⟩ := lex_semis n 0
    rw [hsz, el, hs2] at hl
    refine Ev.bind hl ?_
    by_cases h2 : (n : Int) > 2000
    · have hf : fin67 n (l, none) = ([], (n : Int), 4) := by
        simp only [fin67, told, hlen]; rw [if_pos (by omega)]; rfl
      rw [hf]
      refine Ev.congr (fun k => if_pos h2) (Ev.bind reads_ev ?_)
      exact ev_eq (Ev.now true) rfl |> fun h => Ev.congr (f := fun _ => some true) (fun k => by simp) h
    · have hf : fin67 n (l, none) = (l.map t67, 0, 0) := by
        simp only [fin67, told, hlen]; rw [if_neg (by omega)]
      rw [hf]
      refine Ev.congr (fun k => if_neg h2) (Ev.bind reads_ev ?_)
      exact Ev.congr (f := fun _ => some true) (fun k => by simp [hlen]) (Ev.now true)
end Go.Proofs.YtjcbedgpmjgcdaaDoor.PureLong
