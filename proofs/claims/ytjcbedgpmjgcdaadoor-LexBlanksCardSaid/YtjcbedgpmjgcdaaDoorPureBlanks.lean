/- Blanks and line ends between words change nothing but their places: the law's pure statement. -/
import Derived.Test.YtjcbedgpmjgcdaaDoorPLexx9
import Derived.Test.YtjcbedgpmjgcdaaDoorPureNames
namespace Go.Proofs.YtjcbedgpmjgcdaaDoor.PureBlanks
open Go.RowKit Go.Proofs.YtjcbedgpmjgcdaaDoor.Hand Go.Proofs.YtjcbedgpmjgcdaaDoorW.PrintWords Go.Proofs.YtjcbedgpmjgcdaaDoorW.PrintLast Go.Proofs.YtjcbedgpmjgcdaaDoorW.PrintMore
open LexA LexB LexC PLex PureLong PureNames

/-! ### What lexing keeps -/
def sh (d : Nat) (t : Tok) : Tok := ⟨t.kind, t.text, t.num, t.at_ + d⟩
theorem lexS_shift (l : Bs) : ∀ (n : Nat), l.length = n → ∀ p d, lexS l (p + d) = ((lexS l p).1.map (sh d), (lexS l p).2.map fun z => (z.1 + d, z.2)) := by
  intro n
  induction n using Nat.strongRecOn generalizing l with
  | _ n ih =>
  intro hn p d
  cases l with
  | nil => rw [lexS_nil, lexS_nil]; rfl
  | cons b r =>
    by_cases hB : isB b = true
    · rw [lexS_blank _ _ hB, lexS_blank _ _ hB, show p + d + 1 = (p + 1) + d by omega]
      exact ih r.length (by simp at hn; omega) r rfl (p + 1) d
    · have hB' : isB b = false := by simpa using hB
      cases hw : word1 (b :: r) with
      | error e => rw [lexS_error hB' hw, lexS_error hB' hw]; rfl
      | ok w =>
        have hl := word1_len hw
        have IH := ih ((b :: r).drop w.len).length (by rw [List.length_drop]; omega) _ rfl (p + w.len) d
        rw [lexS_ok hB' hw, lexS_ok hB' hw, show p + d + w.len = p + w.len + d by omega, IH]
        rfl
theorem lexS_pre (q : Bs) (hq : ∀ b ∈ q, isB b = true) (l : Bs) : ∀ p, lexS (q ++ l) p = lexS l (p + q.length) := by
  induction q with
  | nil => intro p; rfl
  | cons b q ih =>
    intro p
    rw [List.cons_append, lexS_blank _ _ (hq b List.mem_cons_self), ih (fun x hx => hq x (List.mem_cons_of_mem _ hx))]
    congr 1; simp; omega
theorem blank_notA {b : UInt8} (h : isB b = true) : isA b = false := by
  simp only [isB, Bool.or_eq_true, beq_iff_eq] at h
  rcases h with rfl | rfl <;> rfl
theorem runL_post (l q : Bs) (hq : ∀ b ∈ q, isB b = true) : runL (l ++ q) = runL l := by
  induction l with
  | nil =>
    cases q with
    | nil => rfl
    | cons b q => rw [List.nil_append, runL_cons, if_neg (by rw [blank_notA (hq b List.mem_cons_self)]; simp)]; rfl
  | cons c l ih => rw [List.cons_append, runL_cons, runL_cons, ih]
theorem signL_post (c : UInt8) (l q : Bs) (hq : ∀ b ∈ q, isB b = true) : signL (c :: l ++ q) = signL (c :: l) := by
  have h1 : ((c :: l ++ q)[1]? = some 61) ↔ ((c :: l)[1]? = some 61) := by
    cases l with
    | nil =>
      cases q with
      | nil => rfl
      | cons b q =>
        have hb := hq b List.mem_cons_self
        simp only [isB, Bool.or_eq_true, beq_iff_eq] at hb
        rcases hb with rfl | rfl <;> simp
    | cons x l => simp
  rw [List.cons_append] at h1 ⊢
  unfold signL
  rw [List.head?_cons, List.head?_cons]
  by_cases h : (c :: (l ++ q))[1]? = some 61 ∧ some c ∈ List.map some twos
  · rw [if_pos h, if_pos ⟨h1.mp h.1, h.2⟩]
  · have h2 : ¬ ((c :: l)[1]? = some 61 ∧ some c ∈ List.map some twos) := fun h' => h ⟨h1.mpr h'.1, h'.2⟩
    rw [if_neg h, if_neg h2]
theorem word1_post (c : UInt8) (l q : Bs) (hq : ∀ b ∈ q, isB b = true) : word1 (c :: l ++ q) = word1 (c :: l) := by
  have hr := runL_post (c :: l) q hq
  have hs := signL_post c l q hq
  have ht : (c :: l ++ q).take (runL (c :: l)) = (c :: l).take (runL (c :: l)) := List.take_append_of_le_length (runL_le _)
  rw [List.cons_append] at hr hs ht ⊢
  rw [word1_cons, word1_cons, hr, hs, ht]
theorem lexS_blanks (q : Bs) (hq : ∀ b ∈ q, isB b = true) (p : Nat) : lexS q p = ([], none) := by
  have := lexS_pre q hq [] p
  rw [List.append_nil] at this
  rw [this, lexS_nil]
theorem lexS_post (q : Bs) (hq : ∀ b ∈ q, isB b = true) (l : Bs) : ∀ (n : Nat), l.length = n → ∀ p, lexS (l ++ q) p = lexS l p := by
  intro n
  induction n using Nat.strongRecOn generalizing l with
  | _ n ih =>
  intro hn p
  cases l with
  | nil => rw [List.nil_append, lexS_blanks q hq, lexS_nil]
  | cons b r =>
    have hwp := word1_post b r q hq
    rw [List.cons_append] at hwp ⊢
    by_cases hB : isB b = true
    · rw [lexS_blank _ _ hB, lexS_blank _ _ hB]
      exact ih r.length (by simp at hn; omega) r rfl (p + 1)
    · have hB' : isB b = false := by simpa using hB
      cases hw : word1 (b :: r) with
      | error e => rw [hw] at hwp; rw [lexS_error hB' hw, lexS_error hB' hwp]
      | ok w =>
        rw [hw] at hwp
        have hl := word1_len hw
        have IH := ih ((b :: r).drop w.len).length (by rw [List.length_drop]; omega) _ rfl (p + w.len)
        rw [lexS_ok hB' hw, lexS_ok hB' hwp]
        have e1 : (b :: (r ++ q)).drop w.len = (b :: r).drop w.len ++ q := by rw [← List.cons_append, List.drop_append_of_le_length hl.2]
        have e2 : (b :: (r ++ q)).take w.len = (b :: r).take w.len := by rw [← List.cons_append, List.take_append_of_le_length hl.2]
        rw [e1, e2, IH]
theorem lexS_err {l : Bs} : ∀ (n : Nat), l.length = n → ∀ p x e, (lexS l p).2 = some (x, e) → (e = 2 ∨ e = 3) ∧ x ≤ p + l.length := by
  intro n
  induction n using Nat.strongRecOn generalizing l with
  | _ n ih =>
  intro hn p x e h
  cases l with
  | nil => rw [lexS_nil] at h; cases h
  | cons b r =>
    by_cases hB : isB b = true
    · rw [lexS_blank _ _ hB] at h
      have := ih r.length (by simp at hn; omega) rfl (p + 1) x e h
      exact ⟨this.1, by simp; omega⟩
    · have hB' : isB b = false := by simpa using hB
      cases hw : word1 (b :: r) with
      | error e' =>
        rw [lexS_error hB' hw] at h
        simp only [Option.some.injEq, Prod.mk.injEq] at h
        refine ⟨?_, by omega⟩
        rw [← h.2]
        rw [word1_cons] at hw
        split at hw
        · split at hw
          · cases hw; right; rfl
          · cases hw
        · split at hw
          · split at hw
            · cases hw
            · cases hw; right; rfl
          · split at hw
            · cases hw; left; rfl
            · cases hw
      | ok w =>
        have hl := word1_len hw
        rw [lexS_ok hB' hw] at h
        have := ih ((b :: r).drop w.len).length (by rw [List.length_drop]; omega) rfl _ x e h
        rw [List.length_drop] at this
        exact ⟨this.1, by omega⟩

/-! ### the law -/
def pads : Nat → Bs
  | 0 => []
  | n + 1 => pads n ++ [32, 10]
theorem pads_len (n : Nat) : (pads n).length = 2 * n := by
  induction n with
  | zero => rfl
  | succ n ih => simp [pads, ih]; omega
theorem pads_B (n : Nat) : ∀ b ∈ pads n, isB b = true := by
  induction n with
  | zero => intro b hb; cases hb
  | succ n ih =>
    intro b hb
    rcases List.mem_append.mp hb with hb | hb
    · exact ih b hb
    · simp at hb; rcases hb with rfl | rfl <;> rfl
theorem blk_l1 (k5 : Nat) (hk : k5 ≤ 100) (l : List Tok) (hl : l.length ≤ 100000) (ha : ∀ t ∈ l, t.at_ ≤ 1000000) : ∀ (d i : Nat), l.length - i = d → i ≤ l.length →
    Ev (fun k => jetsamlaw01_LexBlanks.l1 k (k5 : Int) (l.map t67) ((l.map (sh (2 * k5))).map t67) (i : Int)) true := by
  intro d
  induction d with
  | zero =>
    intro i hd hi
    refine ev_one (fun k => ?_)
    simp only [jetsamlaw01_LexBlanks.l1]
    rw [if_neg (by simp; omega)]
  | succ d ih =>
    intro i hd hi
    have hlt : i < l.length := by omega
    have g1 : rd_T67 (l.map t67) (i : Int) = t67 l[i] := by simp [rd_T67, hlt]
    have g2 : rd_T67 ((l.map (sh (2 * k5))).map t67) (i : Int) = t67 (sh (2 * k5) l[i]) := by simp [rd_T67, hlt]
    have hat := ha l[i] (List.getElem_mem hlt)
    have w1 : wrap64 (2 * (k5 : Int)) = 2 * (k5 : Int) := wrap_id (by omega) (by omega)
    have hw : wrap64 ((i : Int) + 1) = ((i + 1 : Nat) : Int) := by rw [wrap_id (by omega) (by omega)]; omega
    refine Ev.step (f := fun k => jetsamlaw01_LexBlanks.l1 k (k5 : Int) (l.map t67) ((l.map (sh (2 * k5))).map t67) ((i + 1 : Nat) : Int)) (fun k => ?_) (ih (i + 1) (by omega) (by omega))
    simp only [jetsamlaw01_LexBlanks.l1]
    rw [if_pos (by simp; omega), if_pos (by omega), if_pos (by simp; omega), g1, g2, w1, hw]
    have w2 : wrap64 ((t67 l[i]).f3 + 2 * (k5 : Int)) = (t67 (sh (2 * k5) l[i])).f3 := by
      simp only [t67, sh]; rw [wrap_id (by omega) (by omega)]; omega
    have q0 : (t67 (sh (2 * k5) l[i])).f0 = (t67 l[i]).f0 := rfl
    have q1 : (t67 (sh (2 * k5) l[i])).f1 = (t67 l[i]).f1 := rfl
    have q2 : (t67 (sh (2 * k5) l[i])).f2 = (t67 l[i]).f2 := rfl
    rw [w2, if_pos q0, q1, if_pos rfl, if_pos q2, if_pos rfl]
theorem lexS_at (l : Bs) : ∀ (n : Nat), l.length = n → ∀ p, (lexS l p).1.length ≤ l.length ∧ ∀ t ∈ (lexS l p).1, t.at_ ≤ p + l.length := by
  intro n
  induction n using Nat.strongRecOn generalizing l with
  | _ n ih =>
  intro hn p
  cases l with
  | nil => rw [lexS_nil]; exact ⟨by simp, by simp⟩
  | cons b r =>
    by_cases hB : isB b = true
    · rw [lexS_blank _ _ hB]
      obtain ⟨h1, h2⟩ := ih r.length (by simp at hn; omega) r rfl (p + 1)
      exact ⟨by simp; omega, fun t ht => by have := h2 t ht; simp; omega⟩
    · have hB' : isB b = false := by simpa using hB
      cases hw : word1 (b :: r) with
      | error e => rw [lexS_error hB' hw]; exact ⟨by simp, by simp⟩
      | ok w =>
        have hl := word1_len hw
        rw [lexS_ok hB' hw]
        obtain ⟨h1, h2⟩ := ih ((b :: r).drop w.len).length (by rw [List.length_drop]; omega) _ rfl (p + w.len)
        rw [List.length_drop] at h1 h2
        refine ⟨by simp only [List.length_cons] at h1 hl ⊢; omega, fun t ht => ?_⟩
        rcases List.mem_cons.mp ht with rfl | ht
        · show p ≤ _; omega
        · have := h2 t ht; simp only [List.length_cons] at hl ⊢ this; omega
theorem blanks_fin (x0 : ByteArray) (h0 : x0.size ≤ 200) (k5 : Nat) (hk : k5 < 9) :
    Ev (fun k => jetsamlaw01_LexBlanks.l0 k x0 (k5 : Int) (bsOf (pads k5)) (k5 : Int)) true := by
  have hpl := pads_len k5
  have hps : (bsOf (pads k5)).size = 2 * k5 := by rw [bsOf_size, hpl]
  have h1 := lex_ev x0 (by omega)
  have e2 : (bsOf (pads k5) ++ x0) ++ bsOf (pads k5) = bsOf (pads k5 ++ x0.data.toList ++ pads k5) := by
    refine bsOf_eq ?_
    rw [app_list, app_list, bsOf_list]
  have hxs : x0.data.toList.length = x0.size := size_list x0
  have h2 := lex_ev (bsOf (pads k5 ++ x0.data.toList ++ pads k5)) (by rw [bsOf_size]; simp [hpl, hxs]; omega)
  rw [bsOf_list, List.append_assoc, lexS_pre _ (pads_B k5), hpl, lexS_post _ (pads_B k5) _ _ rfl, lexS_shift _ _ rfl 0 (2 * k5)] at h2
  rw [← List.append_assoc] at h2
  have hat := lexS_at x0.data.toList _ rfl 0
  have herr := @lexS_err x0.data.toList _ rfl 0
  generalize lexS x0.data.toList 0 = z at h1 h2 hat herr
  obtain ⟨l, er⟩ := z
  dsimp only at hat herr h2
  have hsz2 : (bsOf (pads k5) ++ x0).size = 2 * k5 + x0.size := by rw [ByteArray.size_append, hps]
  have J : ∀ k, jetsamlaw01_LexBlanks.l0 (k + 1) x0 (k5 : Int) (bsOf (pads k5)) (k5 : Int) = (lex_Lex.f k x0).bind fun bt249 => ((lex_Lex.f k (bsOf (pads k5 ++ x0.data.toList ++ pads k5))).bind fun bt254 => ((jetsamlaw01_reads.f k).bind fun t259 => (if t259 = true then (if bt249.2.2 = bt254.2.2 then (if (bt249.1.length : Int) = (bt254.1.length : Int) then (if bt249.2.2 = 0 then (jetsamlaw01_LexBlanks.j1 k (k5 : Int) bt249.1 bt254.1 false) else (if bt249.2.2 = 4 then (jetsamlaw01_LexBlanks.j1 k (k5 : Int) bt249.1 bt254.1 false) else (jetsamlaw01_LexBlanks.j1 k (k5 : Int) bt249.1 bt254.1 (bt254.2.1 != (wrap64 (bt249.2.1 + (wrap64 (2 * (k5 : Int))))))))) else (jetsamlaw01_LexBlanks.j1 k (k5 : Int) bt249.1 bt254.1 true)) else (jetsamlaw01_LexBlanks.j1 k (k5 : Int) bt249.1 bt254.1 true)) else (jetsamlaw01_LexBlanks.j1 k (k5 : Int) bt249.1 bt254.1 true)))) := by
    intro k
    simp only [jetsamlaw01_LexBlanks.l0]
    rw [if_neg (by omega)]
    congr 1; funext bt
    rw [if_pos (by omega), if_pos (by omega), e2]
  refine Ev.step J (Ev.bind h1 (Ev.bind h2 (Ev.bind reads_ev (Ev.congr (fun k => if_pos rfl) ?_))))
  have j1f : ∀ (a b : List S67), Ev (fun k => jetsamlaw01_LexBlanks.l1 k (k5 : Int) a b 0) true → Ev (fun k => jetsamlaw01_LexBlanks.j1 k (k5 : Int) a b false) true := by
    intro a b h
    refine Ev.step (fun k => ?_) h
    simp only [jetsamlaw01_LexBlanks.j1]; rw [if_neg (by decide)]
  have j1nil : Ev (fun k => jetsamlaw01_LexBlanks.j1 k (k5 : Int) [] [] false) true := by
    refine j1f _ _ (ev_one (fun k => ?_))
    simp only [jetsamlaw01_LexBlanks.l1]; rw [if_neg (by simp)]
  cases er with
  | some z =>
    obtain ⟨x, e⟩ := z
    obtain ⟨he, hx⟩ := herr x e rfl
    have hf1 : fin67 x0.size (l, some (x, e)) = ([], (x : Int), e) := rfl
    have hf2 : fin67 (bsOf (pads k5 ++ x0.data.toList ++ pads k5)).size (l.map (sh (2 * k5)), (some (x, e)).map fun z => (z.1 + 2 * k5, z.2)) = ([], ((x + 2 * k5 : Nat) : Int), e) := rfl
    rw [hf1, hf2]
    refine Ev.congr (f := fun k => jetsamlaw01_LexBlanks.j1 k (k5 : Int) [] [] (((x + 2 * k5 : Nat) : Int) != (wrap64 ((x : Int) + (wrap64 (2 * (k5 : Int))))))) (fun k => ?_) ?_
    · rw [if_pos rfl, if_pos rfl, if_neg (by rcases he with rfl | rfl <;> simp), if_neg (by rcases he with rfl | rfl <;> simp)]
    · have hw2 : wrap64 ((x : Int) + wrap64 (2 * (k5 : Int))) = ((x + 2 * k5 : Nat) : Int) := by
        have w1 : wrap64 (2 * (k5 : Int)) = 2 * (k5 : Int) := wrap_id (by omega) (by omega)
        rw [w1, wrap_id (by omega) (by omega)]; omega
      rw [hw2]
      simpa using j1nil
  | none =>
    by_cases h2k : 2000 < l.length
    · have := hat.1; omega
    · have hf1 : fin67 x0.size (l, none) = (l.map t67, 0, 0) := by simp only [fin67, told]; rw [if_neg h2k]
      have hf2 : fin67 (bsOf (pads k5 ++ x0.data.toList ++ pads k5)).size (l.map (sh (2 * k5)), (none : Option (Nat × Int)).map fun z => (z.1 + 2 * k5, z.2)) = ((l.map (sh (2 * k5))).map t67, 0, 0) := by
        simp only [fin67, told, Option.map_none]; rw [if_neg (by simpa using h2k)]
      rw [hf1, hf2]
      refine Ev.congr (f := fun k => jetsamlaw01_LexBlanks.j1 k (k5 : Int) (l.map t67) ((l.map (sh (2 * k5))).map t67) false) (fun k => ?_) (j1f _ _ ?_)
      · rw [if_pos rfl, if_pos (by simp), if_pos rfl]
      · exact blk_l1 k5 (by omega) l (by have := hat.1; omega) (fun t ht => by have := hat.2 t ht; omega) l.length 0 (by omega) (by omega)
theorem blanks_l0 (x0 : ByteArray) (h0 : x0.size ≤ 200) (k5 : Nat) (hk : k5 < 9) : ∀ (d i : Nat), k5 - i = d → i ≤ k5 →
    Ev (fun k => jetsamlaw01_LexBlanks.l0 k x0 (k5 : Int) (bsOf (pads i)) (i : Int)) true := by
  intro d
  induction d with
  | zero => intro i hd hi; rw [show i = k5 by omega]; exact blanks_fin x0 h0 k5 hk
  | succ d ih =>
    intro i hd hi
    have hw : wrap64 ((i : Int) + 1) = ((i + 1 : Nat) : Int) := by rw [wrap_id (by omega) (by omega)]; omega
    have e1 : bsOf (pads i) ++ (⟨#[32, 10]⟩ : ByteArray) = bsOf (pads (i + 1)) := by rw [bsOf_app, bsOf_list]; rfl
    refine Ev.step (f := fun k => jetsamlaw01_LexBlanks.l0 k x0 (k5 : Int) (bsOf (pads (i + 1))) ((i + 1 : Nat) : Int)) (fun k => ?_) (ih (i + 1) (by omega) (by omega))
    simp only [jetsamlaw01_LexBlanks.l0]
    rw [if_pos (by omega), if_pos (by rw [bsOf_size, pads_len]; omega), hw, e1]
theorem mn_nat (a b : Nat) : mn (a : Int) (b : Int) = ((min a b : Nat) : Int) := by unfold mn; split <;> omega
theorem blanks_pure : jetsamlaw01_LexBlanks.Pure := by
  intro a b ha hb
  obtain ⟨j, hj, e⟩ := mod_u b 9 (by omega) (by omega)
  refine Ev.rounds (r := true) ?_
  unfold jetsamlaw01_LexBlanks.f
  have hm : mn (a.size : Int) 200 = ((min a.size 200 : Nat) : Int) := mn_nat a.size 200
  rw [e, hm]
  refine Ev.congr (f := fun k => jetsamlaw01_LexBlanks.l0 k (a.extract 0 (min a.size 200)) (j : Int) (bsOf (pads 0)) ((0 : Nat) : Int)) (fun k => ?_) (blanks_l0 _ (by rw [ByteArray.size_extract]; omega) j (by omega) j 0 (by omega) (by omega))
  rw [if_pos (by omega), if_pos (by omega), Int.toNat_natCast]; rfl
end Go.Proofs.YtjcbedgpmjgcdaaDoor.PureBlanks
