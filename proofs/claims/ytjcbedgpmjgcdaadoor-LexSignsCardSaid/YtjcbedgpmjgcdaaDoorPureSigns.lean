/- Of all two signs side by side lex.Lex reads signs, or none: the law's plain part. No conditions of its own. -/
import Derived.Test.YtjcbedgpmjgcdaaDoorPLexx11
import Derived.Test.YtjcbedgpmjgcdaaDoorLexR
import Derived.Test.YtjcbedgpmjgcdaaDoorPureBase
namespace Go.Proofs.YtjcbedgpmjgcdaaDoor.PureReads
open Go.RowKit Go.Proofs.YtjcbedgpmjgcdaaDoor.Hand Go.Proofs.YtjcbedgpmjgcdaaDoorW.PrintWords Go.Proofs.YtjcbedgpmjgcdaaDoorW.PrintLast Go.Proofs.YtjcbedgpmjgcdaaDoorW.PrintMore
open LexA LexB LexC PLex PureLong PureNames PureBlanks LexR
/-! ### LexSigns -/
def sgs : Bs := [123, 125, 40, 41, 59, 44, 46, 61, 60, 62, 43, 45, 42, 47, 37, 33]
theorem sgs_not (b : UInt8) (h : b ∈ sgs) : isL b = false ∧ isD b = false ∧ isB b = false := by
  unfold sgs at h
  simp only [List.mem_cons, List.not_mem_nil, or_false] at h
  rcases h with rfl | rfl | rfl | rfl | rfl | rfl | rfl | rfl | rfl | rfl | rfl | rfl | rfl | rfl | rfl | rfl <;> decide
theorem sgs_kind : ∀ (n : Nat) (l : Bs), l.length = n → (∀ b ∈ l, b ∈ sgs) → ∀ p, ∀ t ∈ (lexS l p).1, t.kind = 3 := by
  intro n
  induction n using Nat.strongRecOn with
  | _ n ih =>
  intro l hn hl p t ht
  cases l with
  | nil => rw [lexS_nil] at ht; cases ht
  | cons b r =>
    obtain ⟨h1, h2, h3⟩ := sgs_not b (hl b List.mem_cons_self)
    cases hw : word1 (b :: r) with
    | error e => rw [lexS_error h3 hw] at ht; cases ht
    | ok w =>
      have hlen := word1_len hw
      have hk : w.kind = 3 := by
        rw [word1_cons, if_neg (by simp [h1]), if_neg (by simp [h2])] at hw
        split at hw
        · cases hw
        · cases hw; rfl
      rw [lexS_ok h3 hw] at ht
      rcases List.mem_cons.mp ht with rfl | ht
      · exact hk
      · exact ih ((b :: r).drop w.len).length (by rw [List.length_drop]; omega) _ rfl (fun x hx => hl x (List.mem_of_mem_drop hx)) _ t ht
theorem signs_l0 (l : List Tok) (hl : l.length ≤ 1000000) (hk : ∀ t ∈ l, t.kind = 3) : ∀ (d i : Nat), l.length - i = d → i ≤ l.length →
    Ev (fun k => jetsamlaw01_LexSigns.l0 k (l.map t67) (l.map t68) (i : Int)) true := by
  intro d
  induction d with
  | zero =>
    intro i hd hi
    refine ev_one (fun k => ?_)
    simp only [jetsamlaw01_LexSigns.l0]
    rw [if_neg (by simp; omega)]
  | succ d ih =>
    intro i hd hi
    have hlt : i < l.length := by omega
    have hw : wrap64 ((i : Int) + 1) = ((i + 1 : Nat) : Int) := by rw [wrap_id (by omega) (by omega)]; omega
    refine Ev.step (f := fun k => jetsamlaw01_LexSigns.l0 k (l.map t67) (l.map t68) ((i + 1 : Nat) : Int)) (fun k => ?_) (ih (i + 1) (by omega) (by omega))
    simp only [jetsamlaw01_LexSigns.l0]
    have q0 : (t67 l[i]).f0 = 3 := hk l[i] (List.getElem_mem hlt)
    have q1 : (t67 l[i]).f1 = (t68 l[i]).f1 := rfl
    rw [if_pos (by simp; omega), if_pos (by omega), if_pos (by simp; omega), rd67 l i hlt, rd68 l i hlt, hw, q1, if_pos rfl, if_pos q0]
theorem signs_fin (s : ByteArray) (hs : s.size ≤ 1000000) (hm : ∀ b ∈ s.data.toList, b ∈ sgs) (g : Nat → Option Bool)
    (hg : ∀ k, g k = (lex_Lex.f k s).bind fun bt287 => ((jetsamref01_Lex.f k s).bind fun bt292 => ((jetsamlaw01_reads.f k).bind fun t297 => (if t297 = true then (if bt287.2.1 = bt292.2.1 then (if bt287.2.2 = bt292.2.2 then (jetsamlaw01_LexSigns.j0 k bt287.1 bt292.1 ((bt287.1.length : Int) != (bt292.1.length : Int))) else (jetsamlaw01_LexSigns.j0 k bt287.1 bt292.1 true)) else (jetsamlaw01_LexSigns.j0 k bt287.1 bt292.1 true)) else (jetsamlaw01_LexSigns.j0 k bt287.1 bt292.1 true))))) : Ev g true := by
  have h1 := lex_ev s hs
  have h2 := ref_ev s hs
  have hat := (lexS_at s.data.toList _ rfl 0).1
  rw [size_list] at hat
  have htl := told_len s.size (lexS s.data.toList 0)
  have hk : ∀ t ∈ (told s.size (lexS s.data.toList 0)).1, t.kind = 3 := fun t ht => sgs_kind _ s.data.toList rfl hm 0 t (told_mem _ _ t ht)
  refine Ev.congr hg (Ev.bind h1 (Ev.bind h2 (Ev.bind reads_ev (Ev.congr (fun k => if_pos rfl) ?_))))
  simp only [fin67, fin68]
  generalize told s.size (lexS s.data.toList 0) = z at htl hk
  obtain ⟨l, p, e⟩ := z
  dsimp only at htl hk ⊢
  refine Ev.congr (f := fun k => jetsamlaw01_LexSigns.j0 k (l.map t67) (l.map t68) false) (fun k => by simp) ?_
  refine Ev.step (f := fun k => jetsamlaw01_LexSigns.l0 k (l.map t67) (l.map t68) ((0 : Nat) : Int)) (fun k => by simp only [jetsamlaw01_LexSigns.j0]; rw [if_neg (by decide)]; rfl) ?_
  exact signs_l0 l (by omega) hk l.length 0 (by omega) (by omega)
theorem sg_at (i : Nat) (h : i < 16) : ∃ b ∈ sgs, bt (⟨#[123, 125, 40, 41, 59, 44, 46, 61, 60, 62, 43, 45, 42, 47, 37, 33]⟩ : ByteArray) (i : Int) = (b.toNat : Int) := by
  have e : (⟨#[123, 125, 40, 41, 59, 44, 46, 61, 60, 62, 43, 45, 42, 47, 37, 33]⟩ : ByteArray).data.toList = sgs := rfl
  have hl : i < (⟨#[123, 125, 40, 41, 59, 44, 46, 61, 60, 62, 43, 45, 42, 47, 37, 33]⟩ : ByteArray).data.toList.length := by rw [e]; exact h
  have := bt_get _ i hl
  exact ⟨_, by rw [← e]; exact List.getElem_mem hl, this⟩
theorem signs_pure : jetsamlaw01_LexSigns.Pure := by
  intro a b ha hb
  have ha2 : 0 ≤ a ∧ a ≤ 255 := by simpa [Lit.wf, IntKind.min, IntKind.max, IntKind.signed, IntKind.bits] using ha
  have hb2 : 0 ≤ b ∧ b ≤ 255 := by simpa [Lit.wf, IntKind.min, IntKind.max, IntKind.signed, IntKind.bits] using hb
  refine Ev.rounds (r := true) ?_
  have e1 : Int.tmod (wrap64 a) 16 = (((a % 16).toNat : Nat) : Int) := by rw [wrap_id (by omega) (by omega), Int.tmod_eq_emod_of_nonneg ha2.1]; omega
  have e2 : Int.tmod (wrap64 b) 16 = (((b % 16).toNat : Nat) : Int) := by rw [wrap_id (by omega) (by omega), Int.tmod_eq_emod_of_nonneg hb2.1]; omega
  obtain ⟨x, hx, ex⟩ := sg_at (a % 16).toNat (by omega)
  obtain ⟨y, hy, ey⟩ := sg_at (b % 16).toNat (by omega)
  have hl : (strOfNums [(x.toNat : Int), (y.toNat : Int)]).data.toList = [x, y] := by rw [nums_list]; simp
  have hz : (strOfNums [(x.toNat : Int), (y.toNat : Int)]).size = 2 := by rw [← size_list, hl]; rfl
  refine signs_fin (strOfNums [(x.toNat : Int), (y.toNat : Int)]) (by omega) ?_ _ ?_
  · rw [hl]
    intro c hc
    simp only [List.mem_cons, List.not_mem_nil, or_false] at hc
    rcases hc with rfl | rfl
    · exact hx
    · exact hy
  · intro k
    unfold jetsamlaw01_LexSigns.f
    rw [e1, e2, ex, ey, if_pos (by omega), if_pos (by omega), if_pos (by omega), if_pos (by omega), Option.bind_some]
end Go.Proofs.YtjcbedgpmjgcdaaDoor.PureReads
