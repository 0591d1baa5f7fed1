/- Words put side by side, with a blank between them, are read as they are: the law's plain part. No conditions of its own beyond a list of fewer than 2^40 texts. -/
import Derived.Test.YtjcbedgpmjgcdaaDoorJoin
import Derived.Test.YtjcbedgpmjgcdaaDoorLexR
import Derived.Test.YtjcbedgpmjgcdaaDoorPureBase
namespace Go.Proofs.YtjcbedgpmjgcdaaDoor.PureJoins
open Go.RowKit Go.Proofs.YtjcbedgpmjgcdaaDoor.Hand Go.Proofs.YtjcbedgpmjgcdaaDoorW.PrintWords Go.Proofs.YtjcbedgpmjgcdaaDoorW.PrintLast Go.Proofs.YtjcbedgpmjgcdaaDoorW.PrintMore
open LexA LexB LexC PLex PureReserved PureLong PureNames PureBlanks PureReads LexR

/-! ### A text ahead of a blank -/
theorem runL_mid (l u : Bs) (b : UInt8) (hb : isB b = true) : runL (l ++ b :: u) = runL l := by
  induction l with
  | nil => rw [List.nil_append, runL_cons, if_neg (by rw [blank_notA hb]; simp)]; rfl
  | cons c l ih => rw [List.cons_append, runL_cons, runL_cons, ih]
theorem signL_mid (c : UInt8) (l u : Bs) (b : UInt8) (hb : isB b = true) : signL (c :: l ++ b :: u) = signL (c :: l) := by
  have h1 : ((c :: l ++ b :: u)[1]? = some 61) ↔ ((c :: l)[1]? = some 61) := by
    cases l with
    | nil =>
      simp only [isB, Bool.or_eq_true, beq_iff_eq] at hb
      rcases hb with rfl | rfl <;> simp
    | cons x l => simp
  rw [List.cons_append] at h1 ⊢
  unfold signL
  rw [List.head?_cons, List.head?_cons]
  by_cases h : (c :: (l ++ b :: u))[1]? = some 61 ∧ some c ∈ List.map some twos
  · rw [if_pos h, if_pos ⟨h1.mp h.1, h.2⟩]
  · have h2 : ¬ ((c :: l)[1]? = some 61 ∧ some c ∈ List.map some twos) := fun h' => h ⟨h1.mpr h'.1, h'.2⟩
    rw [if_neg h, if_neg h2]
theorem word1_mid (c : UInt8) (l u : Bs) (b : UInt8) (hb : isB b = true) : word1 (c :: l ++ b :: u) = word1 (c :: l) := by
  have hr := runL_mid (c :: l) u b hb
  have hs := signL_mid c l u b hb
  have ht : (c :: l ++ b :: u).take (runL (c :: l)) = (c :: l).take (runL (c :: l)) := List.take_append_of_le_length (runL_le _)
  rw [List.cons_append] at hr hs ht ⊢
  rw [word1_cons, word1_cons, hr, hs, ht]
theorem lexS_mid (b : UInt8) (hb : isB b = true) (u l : Bs) : ∀ (n : Nat), l.length = n → ∀ p, (lexS l p).2 = none →
    lexS (l ++ b :: u) p = ((lexS l p).1 ++ (lexS u (p + l.length + 1)).1, (lexS u (p + l.length + 1)).2) := by
  intro n
  induction n using Nat.strongRecOn generalizing l with
  | _ n ih =>
  intro hn p h0
  cases l with
  | nil => rw [List.nil_append, lexS_blank _ _ hb, lexS_nil]; rfl
  | cons c r =>
    have hwp := word1_mid c r u b hb
    rw [List.cons_append] at hwp ⊢
    by_cases hB : isB c = true
    · rw [lexS_blank _ _ hB] at h0
      rw [lexS_blank _ _ hB, lexS_blank _ _ hB, ih r.length (by simp at hn; omega) r rfl (p + 1) h0]
      have e : p + 1 + r.length + 1 = p + (c :: r).length + 1 := by simp; omega
      rw [e]
    · have hB' : isB c = false := by simpa using hB
      cases hw : word1 (c :: r) with
      | error e => rw [lexS_error hB' hw] at h0; cases h0
      | ok w =>
        rw [hw] at hwp
        obtain ⟨hl0, hl⟩ := word1_len hw
        rw [lexS_ok hB' hw] at h0
        rw [lexS_ok hB' hw, lexS_ok hB' hwp]
        have ht : (c :: (r ++ b :: u)).take w.len = (c :: r).take w.len := by
          rw [← List.cons_append]; exact List.take_append_of_le_length hl
        have hd : (c :: (r ++ b :: u)).drop w.len = (c :: r).drop w.len ++ b :: u := by
          rw [← List.cons_append]; exact List.drop_append_of_le_length hl
        have hlen : ((c :: r).drop w.len).length < n := by rw [List.length_drop]; omega
        rw [ht, hd, ih _ hlen ((c :: r).drop w.len) rfl (p + w.len) h0]
        have e : p + w.len + ((c :: r).drop w.len).length + 1 = p + (c :: r).length + 1 := by rw [List.length_drop]; omega
        rw [e]; rfl

/-! ### A word alone is read as it is -/
theorem run_take (L : Bs) : runL (L.take (runL L)) = runL L := by
  have hall : ∀ b ∈ L.takeWhile isA, isA b = true := by
    intro b hb; exact List.all_eq_true.mp (List.all_takeWhile) b hb
  rw [runL_take, runL_all' _ hall]; rfl
theorem sign_take (c : UInt8) (r : Bs) : signL ((c :: r).take (signL (c :: r))) = signL (c :: r) := by
  by_cases h : (c :: r)[1]? = some 61 ∧ (c :: r).head? ∈ twos.map some
  · have e : signL (c :: r) = 2 := by unfold signL; rw [if_pos h]
    rw [e]
    cases r with
    | nil => simp at h
    | cons x r =>
      obtain ⟨h1, h2⟩ := h
      have hx : x = 61 := by simpa using h1
      subst hx
      unfold signL
      rw [if_pos ⟨by simp, by simpa using h2⟩]
  · by_cases h1 : (c :: r).head? ∈ ones.map some
    · have e : signL (c :: r) = 1 := by unfold signL; rw [if_neg h, if_pos h1]
      rw [e]
      unfold signL
      rw [if_neg (by simp), if_pos (by simpa using h1)]
    · have e : signL (c :: r) = 0 := by unfold signL; rw [if_neg h, if_neg h1]
      rw [e]; rfl
theorem take_head {c : UInt8} {r : Bs} {n : Nat} (h : 0 < n) : (c :: r).take n = c :: r.take (n - 1) := by
  obtain ⟨m, rfl⟩ : ∃ m, n = m + 1 := ⟨n - 1, by omega⟩
  simp
theorem word1_take (c : UInt8) (r : Bs) (w : W) (h : word1 (c :: r) = .ok w) : word1 ((c :: r).take w.len) = .ok w := by
  have hp := (word1_len h).1
  rw [word1_cons] at h
  by_cases hL : isL c = true
  · rw [if_pos hL] at h
    by_cases h12 : 12 < runL (c :: r)
    · rw [if_pos h12] at h; cases h
    · rw [if_neg h12] at h
      have hw : w = ⟨if (c :: r).take (runL (c :: r)) ∈ resv then 4 else 1, runL (c :: r), 0⟩ := by injection h with h; exact h.symm
      have hl : w.len = runL (c :: r) := by rw [hw]
      have hr := run_take (c :: r)
      rw [hl] at hp ⊢
      have hh := take_head (c := c) (r := r) hp
      rw [hh] at hr ⊢
      rw [word1_cons, if_pos hL, hr, if_neg h12, ← hh, List.take_take, Nat.min_self, hw]
  · rw [if_neg hL] at h
    by_cases hD : isD c = true
    · rw [if_pos hD] at h
      by_cases hk : okNum ((c :: r).take (runL (c :: r))) = true
      · rw [if_pos hk] at h
        have hw : w = ⟨2, runL (c :: r), val ((c :: r).take (runL (c :: r)))⟩ := by injection h with h; exact h.symm
        have hl : w.len = runL (c :: r) := by rw [hw]
        have hr := run_take (c :: r)
        rw [hl] at hp ⊢
        have hh := take_head (c := c) (r := r) hp
        rw [hh] at hr ⊢
        rw [word1_cons, if_neg hL, if_pos hD, hr, ← hh, List.take_take, Nat.min_self, if_pos hk, hw]
      · rw [if_neg hk] at h; cases h
    · rw [if_neg hD] at h
      by_cases hz : signL (c :: r) = 0
      · rw [if_pos hz] at h; cases h
      · rw [if_neg hz] at h
        have hw : w = ⟨3, signL (c :: r), 0⟩ := by injection h with h; exact h.symm
        have hl : w.len = signL (c :: r) := by rw [hw]
        have hr := sign_take c r
        rw [hl] at hp ⊢
        have hh := take_head (c := c) (r := r) hp
        rw [hh] at hr ⊢
        rw [word1_cons, if_neg hL, if_neg hD, hr, if_neg hz, hw]
theorem tok_self (q : Nat) (l : Bs) : ∀ (n : Nat), l.length = n → ∀ p, ∀ t ∈ (lexS l p).1, lexS t.text q = ([⟨t.kind, t.text, t.num, q⟩], none) := by
  intro n
  induction n using Nat.strongRecOn generalizing l with
  | _ n ih =>
  intro hn p t ht
  cases l with
  | nil => rw [lexS_nil] at ht; simp at ht
  | cons c r =>
    by_cases hB : isB c = true
    · rw [lexS_blank _ _ hB] at ht
      exact ih r.length (by simp at hn; omega) r rfl (p + 1) t ht
    · have hB' : isB c = false := by simpa using hB
      cases hw : word1 (c :: r) with
      | error e => rw [lexS_error hB' hw] at ht; simp at ht
      | ok w =>
        rw [lexS_ok hB' hw] at ht
        obtain ⟨hl0, hl⟩ := word1_len hw
        rcases List.mem_cons.mp ht with rfl | ht
        · have hwt := word1_take c r w hw
          have hh := take_head (c := c) (r := r) hl0
          have hlen : ((c :: r).take w.len).length = w.len := by rw [List.length_take]; omega
          show lexS ((c :: r).take w.len) q = ([⟨w.kind, (c :: r).take w.len, w.num, q⟩], none)
          rw [hh] at hwt hlen ⊢
          rw [lexS_ok hB' hwt, List.take_of_length_le (by omega), List.drop_of_length_le (by omega), lexS_nil]
        · exact ih _ (by rw [List.length_drop]; omega) ((c :: r).drop w.len) rfl (p + w.len) t ht
theorem lexS_join (T : Bs) (l : List Tok) (h : lexS T 0 = (l, none)) (hT : T = [] ∨ ∃ T' b, T = T' ++ [b] ∧ isB b = true) (w : Bs) (t : Tok) (hw : lexS w 0 = ([t], none)) (b : UInt8) (hb : isB b = true) :
    lexS (T ++ t.text ++ [b]) 0 = (l ++ [⟨t.kind, t.text, t.num, T.length⟩], none) := by
  have hself : ∀ q, lexS (t.text ++ [b]) q = ([⟨t.kind, t.text, t.num, q⟩], none) := by
    intro q
    rw [lexS_post [b] (by simpa using hb) t.text _ rfl q]
    exact tok_self q w _ rfl 0 t (by rw [hw]; simp)
  rcases hT with rfl | ⟨T', b', rfl, hb'⟩
  · rw [lexS_nil] at h
    obtain rfl : [] = l := (Prod.mk.inj h).1
    rw [List.nil_append, hself]; rfl
  · rw [lexS_post [b'] (by simpa using hb') T' _ rfl 0] at h
    have e : T' ++ [b'] ++ t.text ++ [b] = T' ++ b' :: (t.text ++ [b]) := by simp
    rw [e, lexS_mid b' hb' _ T' _ rfl 0 (by rw [h]), h, hself]
    simp
theorem tok_len (l : Bs) (p : Nat) (t : Tok) (h : lexS l p = ([t], none)) : t.text.length ≤ l.length := by
  have key : ∀ (n : Nat) (l : Bs), l.length = n → ∀ p, ∀ t ∈ (lexS l p).1, t.text.length ≤ l.length := by
    intro n
    induction n using Nat.strongRecOn with
    | _ n ih =>
    intro l hn p t ht
    cases l with
    | nil => rw [lexS_nil] at ht; simp at ht
    | cons c r =>
      by_cases hB : isB c = true
      · rw [lexS_blank _ _ hB] at ht
        have := ih r.length (by simp at hn; omega) r rfl (p + 1) t ht
        simp; omega
      · have hB' : isB c = false := by simpa using hB
        cases hw : word1 (c :: r) with
        | error e => rw [lexS_error hB' hw] at ht; simp at ht
        | ok w =>
          rw [lexS_ok hB' hw] at ht
          obtain ⟨hl0, hl⟩ := word1_len hw
          rcases List.mem_cons.mp ht with rfl | ht
          · show ((c :: r).take w.len).length ≤ _
            rw [List.length_take]; omega
          · have := ih _ (by rw [List.length_drop]; omega) ((c :: r).drop w.len) rfl (p + w.len) t ht
            rw [List.length_drop] at this; omega
  exact key _ l rfl p t (by rw [h]; simp)

/-! ### The law -/
theorem joins_l1 (l : List Tok) (hl : l.length ≤ 1000) : ∀ (d i : Nat), l.length - i = d → i ≤ l.length →
    Ev (fun k => jetsamlaw01_LexJoins.l1 k (l.map t68) (l.map t67) (i : Int)) true := by
  intro d
  induction d with
  | zero =>
    intro i hd hi
    refine ev_one (fun k => ?_)
    simp only [jetsamlaw01_LexJoins.l1]
    rw [if_neg (by simp; omega)]
  | succ d ih =>
    intro i hd hi
    have hlt : i < l.length := by omega
    have hw : wrap64 ((i : Int) + 1) = ((i + 1 : Nat) : Int) := by rw [wrap_id (by omega) (by omega)]; omega
    refine Ev.step (f := fun k => jetsamlaw01_LexJoins.l1 k (l.map t68) (l.map t67) ((i + 1 : Nat) : Int)) (fun k => ?_) (ih (i + 1) (by omega) (by omega))
    simp only [jetsamlaw01_LexJoins.l1]
    have q0 : (t67 l[i]).f0 = (t68 l[i]).f0 := rfl
    have q1 : (t67 l[i]).f1 = (t68 l[i]).f1 := rfl
    have q2 : (t67 l[i]).f2 = (t68 l[i]).f2 := rfl
    have q3 : (t67 l[i]).f3 = (t68 l[i]).f3 := rfl
    rw [if_pos (by simp; omega), if_pos (by omega), if_pos (by simp; omega), rd67 l i hlt, rd68 l i hlt, hw, if_pos q0, q1, if_pos rfl, if_pos q2, if_pos q3]
/-- Behind the last word. -/
theorem joins_end (words : List ByteArray) (line : Bool) (T : ByteArray) (l : List Tok) (i : Int) (hT : T.size ≤ 1000) (hl : l.length ≤ 100) (h : lexS T.data.toList 0 = (l, none)) :
    Ev (fun k => jetsamlaw01_LexJoins.j1 k words line T (l.map t68) i false) true := by
  have h1 := lex_ev T (by omega)
  rw [h] at h1
  have htold : told T.size (l, none) = (l, 0, 0) := by
    show (if 2000 < l.length then ([], (T.size : Int), 4) else (l, 0, 0)) = _
    rw [if_neg (by omega)]
  refine Ev.step (f := fun k => (lex_Lex.f k T).bind fun bt188 => ((jetsamlaw01_reads.f k).bind fun t193 => (if t193 = true then (if bt188.2.2 = 0 then (if bt188.2.1 = 0 then (jetsamlaw01_LexJoins.j3 k (l.map t68) bt188.1 ((bt188.1.length : Int) != ((l.map t68).length : Int))) else (jetsamlaw01_LexJoins.j3 k (l.map t68) bt188.1 true)) else (jetsamlaw01_LexJoins.j3 k (l.map t68) bt188.1 true)) else (jetsamlaw01_LexJoins.j3 k (l.map t68) bt188.1 true)))) (fun k => by simp only [jetsamlaw01_LexJoins.j1]; rw [if_neg (by decide)]) ?_
  refine Ev.bind h1 (Ev.bind reads_ev ?_)
  refine Ev.congr (f := fun k => jetsamlaw01_LexJoins.j3 k (l.map t68) (l.map t67) false) (fun k => by simp [fin67, htold]) ?_
  refine Ev.step (f := fun k => jetsamlaw01_LexJoins.l1 k (l.map t68) (l.map t67) ((0 : Nat) : Int)) (fun k => by simp only [jetsamlaw01_LexJoins.j3]; rw [if_neg (by decide)]; rfl) ?_
  exact joins_l1 l (by omega) l.length 0 (by omega) (by omega)
def sep (line : Bool) : ByteArray := if line = true then ⟨#[10]⟩ else ⟨#[32]⟩
/-- A word that is taken up. -/
theorem joins_take (words : List ByteArray) (line : Bool) (T : ByteArray) (l : List Tok) (t : Tok) (i : Nat) (hT : T.size ≤ 1000) (hl : l.length ≤ 100) (ht : t.text.length ≤ 100) (hi : i ≤ 1000)
    (H : Ev (fun k => jetsamlaw01_LexJoins.l0 k words line ((T ++ bsOf t.text) ++ sep line) ((l ++ [(⟨t.kind, t.text, t.num, T.size⟩ : Tok)]).map t68) ((i + 1 : Nat) : Int)) true) :
    Ev (fun k => jetsamlaw01_LexJoins.j2 k words line T (l.map t68) (i : Int) [t68 t] false) true := by
  have hw : wrap64 ((i : Int) + 1) = ((i + 1 : Nat) : Int) := by rw [wrap_id (by omega) (by omega)]; omega
  have hb : (bsOf t.text).size = t.text.length := bsOf_size _
  have s1 : (T ++ bsOf t.text).size = T.size + (bsOf t.text).size := ByteArray.size_append
  refine Ev.step (fun k => ?_) H
  have e : (List.map t68 l ++ [(⟨t.kind, bsOf t.text, (t.num : Int), (T.size : Int)⟩ : S68)]) = (l ++ [(⟨t.kind, t.text, t.num, T.size⟩ : Tok)]).map t68 := by simp [t68, bsOf]
  have hr : rd_T68 [t68 t] 0 = t68 t := rfl
  have hr2 : ∀ x : S68, rd_T68 [x] 0 = x := fun _ => rfl
  have hs : ∀ x : S68, [t68 t].set (0 : Int).toNat x = [x] := fun _ => rfl
  have hf : (t68 t).f1 = bsOf t.text := rfl
  have hf0 : (t68 t).f0 = t.kind := rfl
  have hf2 : (t68 t).f2 = (t.num : Int) := rfl
  have hc : ((List.map t68 l).length) < 3518437208883 := by rw [List.length_map]; omega
  have g0 : (0 : Int) < ([t68 t].length : Int) := by simp
  have g1 : T.size + (bsOf t.text).size ≤ 9223372036854775807 := by omega
  have g2 : (T ++ bsOf t.text).size + 1 ≤ 9223372036854775807 := by omega
  rw [jetsamlaw01_LexJoins.j2]
  rw [if_neg (by decide), if_pos g0]
  simp only [hr, hs, Option.bind_some, hr2, hf, hf0, hf2]
  rw [if_pos hc, if_pos g1, e, hw]
  cases line with
  | true => rw [if_pos rfl, if_pos g2]; rfl
  | false => rw [if_neg (by decide), if_pos g2]; rfl
theorem sep_list (line : Bool) : ∃ b, isB b = true ∧ (sep line).data.toList = [b] ∧ (sep line).size = 1 := by
  cases line
  · exact ⟨32, rfl, rfl, rfl⟩
  · exact ⟨10, rfl, rfl, rfl⟩
theorem joins_l0 (words : List ByteArray) (line : Bool) : ∀ (d i : Nat) (T : ByteArray) (l : List Tok), 20 - i = d → i ≤ 20 → l.length ≤ i → T.size ≤ 15 * i → lexS T.data.toList 0 = (l, none) →
    (T.data.toList = [] ∨ ∃ T' b, T.data.toList = T' ++ [b] ∧ isB b = true) → Ev (fun k => jetsamlaw01_LexJoins.l0 k words line T (l.map t68) (i : Int)) true := by
  intro d
  induction d with
  | zero =>
    intro i T l hd hi hl hT h hB
    have fin := joins_end words line T l (i : Int) (by omega) (by omega) h
    refine Ev.step (fun k => ?_) fin
    rw [jetsamlaw01_LexJoins.l0]
    have e : decide ((i : Int) < 20) = false := decide_eq_false (by omega)
    rw [e]
    split <;> rfl
  | succ d ih =>
    intro i T l hd hi hl hT h hB
    by_cases hlen : i < words.length
    · refine Ev.step (f := fun k => jetsamlaw01_LexJoins.j1 k words line T (l.map t68) (i : Int) true) (fun k => ?_) ?_
      · rw [jetsamlaw01_LexJoins.l0, if_pos (by omega)]
        have e : decide ((i : Int) < 20) = true := decide_eq_true (by omega)
        rw [e]
      have hw : wrap64 ((i : Int) + 1) = ((i + 1 : Nat) : Int) := by rw [wrap_id (by omega) (by omega)]; omega
      generalize hwd : rdOf ByteArray.empty words (i : Int) = wd
      have hm : mn (wd.size : Int) 14 = ((min wd.size 14 : Nat) : Int) := mn_nat wd.size 14
      generalize hs : wd.extract 0 (min wd.size 14) = s
      have hss : s.size ≤ 14 := by rw [← hs, ByteArray.size_extract]; omega
      have h2 := ref_ev s (by omega)
      have hy : ∀ x : Tok, (told s.size (lexS s.data.toList 0)).1 = [x] → lexS s.data.toList 0 = ([x], none) := by
        intro x hx
        generalize lexS s.data.toList 0 = z at hx
        obtain ⟨z1, z2⟩ := z
        cases z2 with
        | some pe => obtain ⟨p, e⟩ := pe; cases hx
        | none =>
          change (if 2000 < z1.length then (([], (s.size : Int), 4) : List Tok × Int × Int) else (z1, 0, 0)).1 = [x] at hx
          split at hx
          · cases hx
          · rw [show z1 = [x] from hx]
      refine Ev.step (f := fun k => (jetsamref01_Lex.f k s).bind fun bt177 => (if bt177.2.2 = 0 then (jetsamlaw01_LexJoins.j2 k words line T (l.map t68) (i : Int) bt177.1 ((bt177.1.length : Int) != 1)) else (jetsamlaw01_LexJoins.j2 k words line T (l.map t68) (i : Int) bt177.1 true))) (fun k => ?_) ?_
      · rw [jetsamlaw01_LexJoins.j1, if_pos rfl, if_pos (by omega), if_pos (by omega), hwd, hm, if_pos (by omega), if_pos (by omega), Int.toNat_natCast, hs]
      obtain ⟨y1, y2, y3, he⟩ : ∃ y1 y2 y3, told s.size (lexS s.data.toList 0) = (y1, y2, y3) := ⟨_, _, _, rfl⟩
      have h2' : Ev (fun k => jetsamref01_Lex.f k s) (y1.map t68, y2, y3) := ev_eq h2 (by unfold fin68; rw [he])
      rw [he] at hy
      dsimp only at hy
      refine Ev.bind h2' ?_
      have skip : ∀ L : List S68, Ev (fun k => jetsamlaw01_LexJoins.j2 k words line T (l.map t68) (i : Int) L true) true := by
        intro L
        refine Ev.step (fun k => ?_) (ih (i + 1) T l (by omega) (by omega) (by omega) (by omega) h hB)
        rw [jetsamlaw01_LexJoins.j2, if_pos rfl, hw]
      by_cases h3 : y3 = 0
      · refine Ev.congr (f := fun k => jetsamlaw01_LexJoins.j2 k words line T (l.map t68) (i : Int) (y1.map t68) (((y1.map t68).length : Int) != 1)) (fun k => if_pos h3) ?_
        match y1, hy with
        | [], _ => exact skip _
        | a :: b :: r, _ =>
          have e : ((((a :: b :: r).map t68).length : Int) != 1) = true := by simp; omega
          rw [e]; exact skip _
        | [t], hy =>
          have ht : lexS s.data.toList 0 = ([t], none) := hy t rfl
          have htl := tok_len _ _ _ ht
          rw [size_list] at htl
          refine joins_take words line T l t i (by omega) (by omega) (by omega) (by omega) ?_
          obtain ⟨b, hb, hsl, hsz⟩ := sep_list line
          have s1 : ((T ++ bsOf t.text) ++ sep line).size = T.size + t.text.length + 1 := by
            rw [ByteArray.size_append, ByteArray.size_append, bsOf_size, hsz]
          have hL : ((T ++ bsOf t.text) ++ sep line).data.toList = T.data.toList ++ t.text ++ [b] := by
            rw [app_list, app_list, hsl, bsOf_list]
          refine ih (i + 1) _ _ (by omega) (by omega) (by simp; omega) (by omega) ?_ (Or.inr ⟨T.data.toList ++ t.text, b, hL, hb⟩)
          rw [hL, lexS_join _ l h hB _ t ht b hb, size_list]
      · exact Ev.congr (fun k => if_neg h3) (skip _)
    · have fin := joins_end words line T l (i : Int) (by omega) (by omega) h
      refine Ev.step (fun k => ?_) fin
      rw [jetsamlaw01_LexJoins.l0, if_neg (by omega)]
theorem joins_ev (words : List ByteArray) (line : Bool) : Ev (fun k => jetsamlaw01_LexJoins.f k words line) true := by
  have h := joins_l0 words line 20 0 (⟨#[]⟩ : ByteArray) [] rfl (by omega) (by simp) (by decide) (lexS_nil 0) (Or.inl rfl)
  exact h
end Go.Proofs.YtjcbedgpmjgcdaaDoor.PureJoins
