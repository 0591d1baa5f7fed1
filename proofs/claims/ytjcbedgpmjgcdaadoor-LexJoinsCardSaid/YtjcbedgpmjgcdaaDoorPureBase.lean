/- What the laws of lexing share: of blanks ahead of and behind a text, of the reference's Reserved, of small sums. No conditions of its own. -/
import Derived.Test.YtjcbedgpmjgcdaaDoorPLexx3
import Derived.Test.YtjcbedgpmjgcdaaDoorLexC
namespace Go.Proofs.YtjcbedgpmjgcdaaDoor.PureReserved
open Go.RowKit Go.Proofs.YtjcbedgpmjgcdaaDoor.Hand Go.Proofs.YtjcbedgpmjgcdaaDoorW.PrintWords Go.Proofs.YtjcbedgpmjgcdaaDoorW.PrintLast Go.Proofs.YtjcbedgpmjgcdaaDoorW.PrintMore
open LexA LexB LexC PLex
theorem rdOf_get (l : List ByteArray) (i : Nat) (h : i < l.length) : rdOf ByteArray.empty l (i : Int) = l[i] := by
  simp [rdOf, h]
theorem ref_l0 (s : ByteArray) (l : List ByteArray) (hl : l.length ≤ 1000) : ∀ (d i : Nat), l.length - i = d → i ≤ l.length →
    Ev (fun k => jetsamref01_Reserved.l0 k s l (i : Int)) (decide (s.data.toList ∈ (l.drop i).map (·.data.toList))) := by
  intro d
  induction d with
  | zero =>
    intro i hd hi
    refine ev_one (fun k => ?_)
    simp only [jetsamref01_Reserved.l0]
    rw [if_neg (by omega), List.drop_of_length_le (by omega)]; simp
  | succ d ih =>
    intro i hd hi
    have hlt : i < l.length := by omega
    have IH := ih (i + 1) (by omega) (by omega)
    have hw : wrap64 ((i : Int) + 1) = ((i + 1 : Nat) : Int) := by rw [wrap_id (by omega) (by omega)]; omega
    rw [List.drop_eq_getElem_cons hlt, List.map_cons]
    by_cases he : l[i].data.toList = s.data.toList
    · refine ev_one (fun k => ?_)
      simp only [jetsamref01_Reserved.l0]
      rw [if_pos (by omega), if_pos (by omega), rdOf_get l i hlt, Go.ByteArray.toList_eq, Go.ByteArray.toList_eq, if_pos he, he]; simp
    · refine Ev.step (f := fun k => jetsamref01_Reserved.l0 k s l ((i + 1 : Nat) : Int)) (fun k => ?_) (ev_eq IH ?_)
      · simp only [jetsamref01_Reserved.l0]
        rw [if_pos (by omega), if_pos (by omega), rdOf_get l i hlt, Go.ByteArray.toList_eq, Go.ByteArray.toList_eq, if_neg he, hw]
      · refine decide_eq_decide.mpr ?_
        rw [List.mem_cons]
        exact ⟨.inr, fun h => h.elim (fun h => absurd h.symm he) id⟩
theorem ref_reserved_ev (s : ByteArray) : Ev (fun k => jetsamref01_Reserved.f k s) (decide (s.data.toList ∈ resv)) := by
  unfold jetsamref01_Reserved.f jetsamref01_words.f
  exact ref_l0 s _ (by decide) 16 0 rfl (by decide)
end Go.Proofs.YtjcbedgpmjgcdaaDoor.PureReserved
namespace Go.Proofs.YtjcbedgpmjgcdaaDoor.PureLong
open Go.RowKit Go.Proofs.YtjcbedgpmjgcdaaDoor.Hand Go.Proofs.YtjcbedgpmjgcdaaDoorW.PrintWords Go.Proofs.YtjcbedgpmjgcdaaDoorW.PrintLast Go.Proofs.YtjcbedgpmjgcdaaDoorW.PrintMore
open LexA LexB LexC PLex
theorem lex_semis : ∀ (n p : Nat), ∃ l : List Tok, l.length = n ∧ lexS (List.replicate n 59) p = (l, none) := by
  intro n
  induction n with
  | zero => intro p; exact ⟨[], rfl, lexS_nil p⟩
  | succ n ih =>
    intro p
    obtain ⟨l, hl, e⟩ := ih (p + 1)
    have hs : signL (59 :: List.replicate n 59) = 1 := by
      cases n <;> rfl
    have hw : word1 (59 :: List.replicate n 59) = .ok ⟨3, 1, 0⟩ := by
      rw [word1_cons, if_neg (by decide), if_neg (by decide), hs]; rfl
    refine ⟨⟨3, [59], 0, p⟩ :: l, by simp [hl], ?_⟩
    rw [List.replicate_succ, lexS_ok rfl hw]
    show (_ :: (lexS (List.replicate n 59) (p + 1)).1, (lexS (List.replicate n 59) (p + 1)).2) = _
    rw [e]; rfl
theorem nums_list (xs : List Int) : (strOfNums xs).data.toList = xs.map fun n => UInt8.ofNat n.toNat := by simp [strOfNums]
theorem mod_u (a m : Int) (hm : 0 < m) (hm2 : m ≤ 1000) : ∃ j : Nat, (j : Int) < m ∧ wrap64 (Int.tmod (IntKind.u64.wrap a) m) = (j : Int) := by
  rw [u64_wrap]
  have h0 : 0 ≤ a % 18446744073709551616 := Int.emod_nonneg _ (by omega)
  rw [Int.tmod_eq_emod_of_nonneg h0]
  have h1 := Int.emod_nonneg (a % 18446744073709551616) (show m ≠ 0 by omega)
  have h2 := Int.emod_lt_of_pos (a % 18446744073709551616) hm
  refine ⟨(a % 18446744073709551616 % m).toNat, by omega, ?_⟩
  rw [wrap_id (by omega) (by omega)]; omega
theorem mod10 (a : Int) : ∃ j : Nat, j < 10 ∧ wrap64 (1995 + (wrap64 (Int.tmod (IntKind.u64.wrap a) 10))) = ((1995 + j : Nat) : Int) := by
  obtain ⟨j, hj, e⟩ := mod_u a 10 (by omega) (by omega)
  exact ⟨j, by omega, by rw [e, wrap_id (by omega) (by omega)]; omega⟩
end Go.Proofs.YtjcbedgpmjgcdaaDoor.PureLong
namespace Go.Proofs.YtjcbedgpmjgcdaaDoor.PureNames
open Go.RowKit Go.Proofs.YtjcbedgpmjgcdaaDoor.Hand Go.Proofs.YtjcbedgpmjgcdaaDoorW.PrintWords Go.Proofs.YtjcbedgpmjgcdaaDoorW.PrintLast Go.Proofs.YtjcbedgpmjgcdaaDoorW.PrintMore
open LexA LexB LexC PLex PureLong
def bsOf (l : Bs) : ByteArray := ⟨l.toArray⟩
theorem bsOf_list (l : Bs) : (bsOf l).data.toList = l := by simp [bsOf]
theorem bsOf_size (l : Bs) : (bsOf l).size = l.length := by rw [← size_list, bsOf_list]
theorem bsOf_app (s t : ByteArray) : s ++ t = bsOf (s.data.toList ++ t.data.toList) := list_ext (by rw [app_list, bsOf_list])
theorem bsOf_eq {s : ByteArray} {l : Bs} (h : s.data.toList = l) : s = bsOf l := list_ext (by rw [h, bsOf_list])

theorem runL_all (l r : Bs) (h : ∀ b ∈ l, isA b = true) (hr : ∀ b, r.head? = some b → isA b = false) : runL (l ++ r) = l.length := by
  induction l with
  | nil =>
    cases r with
    | nil => rfl
    | cons b r => rw [List.nil_append, runL_cons, if_neg (by rw [hr b rfl]; simp)]; rfl
  | cons b l ih =>
    rw [List.cons_append, runL_cons, if_pos (h b List.mem_cons_self), ih (fun x hx => h x (List.mem_cons_of_mem _ hx))]; rfl
theorem runL_all' (l : Bs) (h : ∀ b ∈ l, isA b = true) : runL l = l.length := by
  have := runL_all l [] h (by simp); simpa using this
end Go.Proofs.YtjcbedgpmjgcdaaDoor.PureNames
namespace Go.Proofs.YtjcbedgpmjgcdaaDoor.PureBlanks
open Go.RowKit Go.Proofs.YtjcbedgpmjgcdaaDoor.Hand Go.Proofs.YtjcbedgpmjgcdaaDoorW.PrintWords Go.Proofs.YtjcbedgpmjgcdaaDoorW.PrintLast Go.Proofs.YtjcbedgpmjgcdaaDoorW.PrintMore
open LexA LexB LexC PLex PureLong PureNames
def sh (d : Nat) (t : Tok) : Tok := ⟨t.kind, t.text, t.num, t.at_ + d⟩
theorem lexS_shift (l : Bs) : ∀ (n : Nat), l.length = n → ∀ p d, lexS l (p + d) = ((lexS l p).1.map (sh d), (lexS l p).2.map fun z => (z.1 + d, z.2)) := by
  intro n
  induction n using Nat.strongRecOn generalizing l with
  | _ n ih =>
  intro hn p d
  cases l with
  | nil => rw [lexS_nil, lexS_nil]; rfl
  | cons b r =>
    by_cases hB : isB b = true
    · rw [lexS_blank _ _ hB, lexS_blank _ _ hB, show p + d + 1 = (p + 1) + d by omega]
      exact ih r.length (by simp at hn; omega) r rfl (p + 1) d
    · have hB' : isB b = false := by simpa using hB
      cases hw : word1 (b :: r) with
      | error e => rw [lexS_error hB' hw, lexS_error hB' hw]; rfl
      | ok w =>
        have hl := word1_len hw
        have IH := ih ((b :: r).drop w.len).length (by rw [List.length_drop]; omega) _ rfl (p + w.len) d
        rw [lexS_ok hB' hw, lexS_ok hB' hw, show p + d + w.len = p + w.len + d by omega, IH]
        rfl
theorem lexS_pre (q : Bs) (hq : ∀ b ∈ q, isB b = true) (l : Bs) : ∀ p, lexS (q ++ l) p = lexS l (p + q.length) := by
  induction q with
  | nil => intro p; rfl
  | cons b q ih =>
    intro p
    rw [List.cons_append, lexS_blank _ _ (hq b List.mem_cons_self), ih (fun x hx => hq x (List.mem_cons_of_mem _ hx))]
    congr 1; simp; omega
theorem blank_notA {b : UInt8} (h : isB b = true) : isA b = false := by
  simp only [isB, Bool.or_eq_true, beq_iff_eq] at h
  rcases h with rfl | rfl <;> rfl
theorem runL_post (l q : Bs) (hq : ∀ b ∈ q, isB b = true) : runL (l ++ q) = runL l := by
  induction l with
  | nil =>
    cases q with
    | nil => rfl
    | cons b q => rw [List.nil_append, runL_cons, if_neg (by rw [blank_notA (hq b List.mem_cons_self)]; simp)]; rfl
  | cons c l ih => rw [List.cons_append, runL_cons, runL_cons, ih]
theorem signL_post (c : UInt8) (l q : Bs) (hq : ∀ b ∈ q, isB b = true) : signL (c :: l ++ q) = signL (c :: l) := by
  have h1 : ((c :: l ++ q)[1]? = some 61) ↔ ((c :: l)[1]? = some 61) := by
    cases l with
    | nil =>
      cases q with
      | nil => rfl
      | cons b q =>
        have hb := hq b List.mem_cons_self
        simp only [isB, Bool.or_eq_true, beq_iff_eq] at hb
        rcases hb with rfl | rfl <;> simp
    | cons x l => simp
  rw [List.cons_append] at h1 ⊢
  unfold signL
  rw [List.head?_cons, List.head?_cons]
  by_cases h : (c :: (l ++ q))[1]? = some 61 ∧ some c ∈ List.map some twos
  · rw [if_pos h, if_pos ⟨h1.mp h.1, h.2⟩]
  · have h2 : ¬ ((c :: l)[1]? = some 61 ∧ some c ∈ List.map some twos) := fun h' => h ⟨h1.mpr h'.1, h'.2⟩
    rw [if_neg h, if_neg h2]
theorem word1_post (c : UInt8) (l q : Bs) (hq : ∀ b ∈ q, isB b = true) : word1 (c :: l ++ q) = word1 (c :: l) := by
  have hr := runL_post (c :: l) q hq
  have hs := signL_post c l q hq
  have ht : (c :: l ++ q).take (runL (c :: l)) = (c :: l).take (runL (c :: l)) := List.take_append_of_le_length (runL_le _)
  rw [List.cons_append] at hr hs ht ⊢
  rw [word1_cons, word1_cons, hr, hs, ht]
theorem lexS_blanks (q : Bs) (hq : ∀ b ∈ q, isB b = true) (p : Nat) : lexS q p = ([], none) := by
  have := lexS_pre q hq [] p
  rw [List.append_nil] at this
  rw [this, lexS_nil]
theorem lexS_post (q : Bs) (hq : ∀ b ∈ q, isB b = true) (l : Bs) : ∀ (n : Nat), l.length = n → ∀ p, lexS (l ++ q) p = lexS l p := by
  intro n
  induction n using Nat.strongRecOn generalizing l with
  | _ n ih =>
  intro hn p
  cases l with
  | nil => rw [List.nil_append, lexS_blanks q hq, lexS_nil]
  | cons b r =>
    have hwp := word1_post b r q hq
    rw [List.cons_append] at hwp ⊢
    by_cases hB : isB b = true
    · rw [lexS_blank _ _ hB, lexS_blank _ _ hB]
      exact ih r.length (by simp at hn; omega) r rfl (p + 1)
    · have hB' : isB b = false := by simpa using hB
      cases hw : word1 (b :: r) with
      | error e => rw [hw] at hwp; rw [lexS_error hB' hw, lexS_error hB' hwp]
      | ok w =>
        rw [hw] at hwp
        have hl := word1_len hw
        have IH := ih ((b :: r).drop w.len).length (by rw [List.length_drop]; omega) _ rfl (p + w.len)
        rw [lexS_ok hB' hw, lexS_ok hB' hwp]
        have e1 : (b :: (r ++ q)).drop w.len = (b :: r).drop w.len ++ q := by rw [← List.cons_append, List.drop_append_of_le_length hl.2]
        have e2 : (b :: (r ++ q)).take w.len = (b :: r).take w.len := by rw [← List.cons_append, List.take_append_of_le_length hl.2]
        rw [e1, e2, IH]
theorem lexS_err {l : Bs} : ∀ (n : Nat), l.length = n → ∀ p x e, (lexS l p).2 = some (x, e) → (e = 2 ∨ e = 3) ∧ x ≤ p + l.length := by
  intro n
  induction n using Nat.strongRecOn generalizing l with
  | _ n ih =>
  intro hn p x e h
  cases l with
  | nil => rw [lexS_nil] at h; cases h
  | cons b r =>
    by_cases hB : isB b = true
    · rw [lexS_blank _ _ hB] at h
      have := ih r.length (by simp at hn; omega) rfl (p + 1) x e h
      exact ⟨this.1, by simp; omega⟩
    · have hB' : isB b = false := by simpa using hB
      cases hw : word1 (b :: r) with
      | error e' =>
        rw [lexS_error hB' hw] at h
        simp only [Option.some.injEq, Prod.mk.injEq] at h
        refine ⟨?_, by omega⟩
        rw [← h.2]
        rw [word1_cons] at hw
        split at hw
        · split at hw
          · cases hw; right; rfl
          · cases hw
        · split at hw
          · split at hw
            · cases hw
            · cases hw; right; rfl
          · split at hw
            · cases hw; left; rfl
            · cases hw
      | ok w =>
        have hl := word1_len hw
        rw [lexS_ok hB' hw] at h
        have := ih ((b :: r).drop w.len).length (by rw [List.length_drop]; omega) rfl _ x e h
        rw [List.length_drop] at this
        exact ⟨this.1, by omega⟩

theorem lexS_at (l : Bs) : ∀ (n : Nat), l.length = n → ∀ p, (lexS l p).1.length ≤ l.length ∧ ∀ t ∈ (lexS l p).1, t.at_ ≤ p + l.length := by
  intro n
  induction n using Nat.strongRecOn generalizing l with
  | _ n ih =>
  intro hn p
  cases l with
  | nil => rw [lexS_nil]; exact ⟨by simp, by simp⟩
  | cons b r =>
    by_cases hB : isB b = true
    · rw [lexS_blank _ _ hB]
      obtain ⟨h1, h2⟩ := ih r.length (by simp at hn; omega) r rfl (p + 1)
      exact ⟨by simp; omega, fun t ht => by have := h2 t ht; simp; omega⟩
    · have hB' : isB b = false := by simpa using hB
      cases hw : word1 (b :: r) with
      | error e => rw [lexS_error hB' hw]; exact ⟨by simp, by simp⟩
      | ok w =>
        have hl := word1_len hw
        rw [lexS_ok hB' hw]
        obtain ⟨h1, h2⟩ := ih ((b :: r).drop w.len).length (by rw [List.length_drop]; omega) _ rfl (p + w.len)
        rw [List.length_drop] at h1 h2
        refine ⟨by simp only [List.length_cons] at h1 hl ⊢; omega, fun t ht => ?_⟩
        rcases List.mem_cons.mp ht with rfl | ht
        · show p ≤ _; omega
        · have := h2 t ht; simp only [List.length_cons] at hl ⊢ this; omega
theorem mn_nat (a b : Nat) : mn (a : Int) (b : Int) = ((min a b : Nat) : Int) := by unfold mn; split <;> omega
end Go.Proofs.YtjcbedgpmjgcdaaDoor.PureBlanks
namespace Go.Proofs.YtjcbedgpmjgcdaaDoor.PureReads
open Go.RowKit Go.Proofs.YtjcbedgpmjgcdaaDoor.Hand Go.Proofs.YtjcbedgpmjgcdaaDoorW.PrintWords Go.Proofs.YtjcbedgpmjgcdaaDoorW.PrintLast Go.Proofs.YtjcbedgpmjgcdaaDoorW.PrintMore
open LexA LexB LexC PLex PureLong PureNames PureBlanks
theorem rd67 (l : List Tok) (i : Nat) (h : i < l.length) : rd_T67 (l.map t67) (i : Int) = t67 l[i] := by simp [rd_T67, h]
theorem told_len (size : Nat) (z : List Tok × Option (Nat × Int)) : (told size z).1.length ≤ z.1.length := by
  unfold told
  split
  · simp
  · split <;> simp
theorem told_mem (size : Nat) (z : List Tok × Option (Nat × Int)) (t : Tok) (h : t ∈ (told size z).1) : t ∈ z.1 := by
  unfold told at h
  split at h
  · cases h
  · split at h
    · cases h
    · exact h
end Go.Proofs.YtjcbedgpmjgcdaaDoor.PureReads
