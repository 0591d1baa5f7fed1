/- The plain law of TransSkips. -/
import Derived.Test.YtbebnddalipfhaaGreatStepC
namespace Go.Proofs.YtbebnddalipfhaaGreat.Abs
open Go Go.RowKit
set_option linter.unusedVariables false
set_option linter.unusedSimpArgs false
/-- A Num that says just one row of numbers. -/
structure TR (n : Nat) (v : Nat → Int) (a : num_Num) : Prop where
  s : NSat n v a
  t : ∀ i j, i ≤ n → j ≤ n → a.Z.D i j ≤ v i - v j
  o : ∀ i j, n < i ∨ n < j → a.Z.D i j = 0
theorem ZerosT_law {n : Nat} (hn : n ≤ 6) : ∃ a, num_Zeros (n : Int) = some a ∧ TR n (fun _ => 0) a := by
  have hv : Va n (fun _ => 0) := ⟨hn, rfl, fun _ _ => by constructor <;> decide⟩
  have hN : min (max (n : Int) 0) 6 = (n : Int) := by omega
  have hs : Sat n (fun _ => 0) (zone_Zone.mk (n : Int) false (arr (arr 0 []) [(arr 0 [0, 0, 0, 0, 0, 0, 0]), (arr 0 [0, 0, 0, 0, 0, 0, 0]), (arr 0 [0, 0, 0, 0, 0, 0, 0]), (arr 0 [0, 0, 0, 0, 0, 0, 0]), (arr 0 [0, 0, 0, 0, 0, 0, 0]), (arr 0 [0, 0, 0, 0, 0, 0, 0]), (arr 0 [0, 0, 0, 0, 0, 0, 0])])) :=
    ⟨rfl, rfl, fun i j _ _ => by simp only [zero_arr]; omega, fun i j _ _ => by simp only [zero_arr]; omega⟩
  refine ⟨_, ?_, nsat_of hs, fun i j _ _ => by simp only [zero_arr]; omega, fun i j _ => by simp only [zero_arr]⟩
  unfold num_Zeros zone_Zeros
  rw [hN, sb, of_law hv hs]; rfl
theorem rowT_law (l : List Int) (hl : l.length ≤ 6) (hr : ∀ x ∈ l, -2147483648 ≤ x ∧ x ≤ 2147483647) : ∃ a, l14_row l = some a ∧ TR l.length (va l l.length) a := by
  have hva : ∀ k, k ≤ l.length → Va l.length (va l k) := fun k hk => ⟨hl, by unfold va; simp, fun i hi => by
    unfold va
    split
    · constructor <;> decide
    · have hlt : i - 1 < l.length := by omega
      rw [List.getD_eq_getElem?_getD, List.getElem?_eq_getElem hlt]
      exact hr _ (List.getElem_mem hlt)⟩
  obtain ⟨a0, q0, p0⟩ := ZerosT_law hl
  have e0 : va l 0 = fun _ => 0 := by funext i; unfold va; rw [if_pos (by omega)]
  obtain ⟨o, h1, h2⟩ := iter_inv (body := l14_row_l1 l) l.length (fun i x => x.1 = (i : Int) ∧ TR l.length (va l i) x.2) (fun o => ∃ a, o = .inr a ∧ TR l.length (va l l.length) a) (fun i x hi hx => by
    obtain ⟨x1, a⟩ := x
    obtain ⟨rfl, hp⟩ := hx
    simp only at hp
    have hm := hr _ (List.getElem_mem hi)
    have ev : va l (i + 1) (i + 1) = l[i] := by
      unfold va
      rw [if_neg (by omega), List.getD_eq_getElem?_getD, show i + 1 - 1 = i by omega, List.getElem?_eq_getElem hi]; rfl
    have hc : itv_Const l[i] = some ⟨l[i], l[i]⟩ := Const_pt ⟨hm.1, hm.2⟩
    have hee : ∀ j, j ≠ i + 1 → va l (i + 1) j = va l i j := fun j hj => by
      unfold va
      by_cases c : j = 0 ∨ i < j
      · rw [if_pos c, if_pos (by omega)]
      · rw [if_neg c, if_neg (by omega)]
    have z0 : va l i 0 = 0 := by unfold va; simp
    obtain ⟨b, q, s, d, u1, u2, ou, w1, w2, w3⟩ := SetT_law (hva i (by omega)) (hva (i + 1) (by omega)) hp.s i hi hee ⟨l[i], l[i]⟩ (by rw [ev]; exact ⟨Int.le_refl _, Int.le_refl _⟩) ⟨hm.1, by simp only; omega⟩
    refine ⟨(IntKind.i64.wrap ((i : Int) + 1), b), ?_, wsucc (by omega), s, fun x y hx hy => ?_, fun x y hxy => (ou x y hxy).trans (hp.o x y hxy)⟩
    · unfold l14_row_l1
      simp only
      rw [if_pos (by simpa using hi), idx_nat (List.getElem?_eq_getElem hi), sb, hc, sb, q]; rfl
    · simp only at w1 w2 w3 u1 u2 ⊢
      by_cases cx : x = i + 1
      · by_cases cy : y = i + 1
        · subst cx; subst cy; omega
        · have r1 := w1 y hy cy
          have r2 := hp.t 0 y (by omega) hy
          rw [cx, ev, hee y cy]; omega
      · by_cases cy : y = i + 1
        · have r1 := w2 x hx cx
          have r2 := hp.t x 0 hx (by omega)
          rw [cy, ev, hee x cx]; omega
        · rw [hee x cx, hee y cy]
          exact Int.le_trans (d x y hx hy cx cy) (hp.t x y hx hy)) (fun x hx => by
    obtain ⟨x1, a⟩ := x
    obtain ⟨rfl, hp⟩ := hx
    refine ⟨_, ?_, a, rfl, hp⟩
    unfold l14_row_l1
    simp only
    rw [if_neg (by simp)]) (0, a0) ⟨rfl, by rw [e0]; exact p0⟩
  obtain ⟨a, rfl, hp⟩ := h2
  refine ⟨a, ?_, hp⟩
  unfold l14_row
  rw [q0, sb, h1]; rfl
theorem lt7 {i : Nat} (h : i < 7) : decide ((i : Int) < 7) = true := decide_eq_true (by omega)
theorem alike_ok {n : Nat} (hn : n ≤ 6) {z w : zone_Zone} (h1 : z.N = (n : Int)) (h2 : w.N = (n : Int)) : zone_alike z w = some true := by
  unfold zone_alike
  rw [h1, h2, if_pos (by simp), count_ok hn]; rfl
theorem ZJoin_law {n : Nat} (hn : n ≤ 6) {z w : zone_Zone} (h1 : z.N = (n : Int)) (h2 : w.N = (n : Int)) (h3 : z.None = false) (h4 : w.None = false) :
    ∃ y, zone_Join z w = some y ∧ y.N = (n : Int) ∧ y.None = false ∧ ∀ p q, y.D p q = if p < 7 ∧ q < 7 then max (z.D p q) (w.D p q) else z.D p q := by
  have in3 : ∀ (i : Nat) (x2 : Int × zone_Zone) (y : zone_Zone), i < 7 → x2.1 = (i : Int) → y.N = (n : Int) → y.None = false → (∀ p q, y.D p q = if p < i ∧ q < 7 then max (z.D p q) (w.D p q) else z.D p q) →
      ∃ y', iter (zone_both_zone_Join_1_l3 z w i x2) (0, y) = some (.inr y') ∧ y'.N = (n : Int) ∧ y'.None = false ∧ ∀ p q, y'.D p q = if p < i + 1 ∧ q < 7 then max (z.D p q) (w.D p q) else z.D p q := by
    intro i x2 y hi e2 hN hb hD
    obtain ⟨o, a1, a2⟩ := iter_inv (body := zone_both_zone_Join_1_l3 z w i x2) 7 (fun j x => x.1 = (j : Int) ∧ x.2.N = (n : Int) ∧ x.2.None = false ∧ ∀ p q, x.2.D p q = if (p < i ∧ q < 7) ∨ (p = i ∧ q < j) then max (z.D p q) (w.D p q) else z.D p q)
      (fun o => ∃ y', o = .inr y' ∧ y'.N = (n : Int) ∧ y'.None = false ∧ ∀ p q, y'.D p q = if p < i + 1 ∧ q < 7 then max (z.D p q) (w.D p q) else z.D p q) (fun j x hj hx => by
      obtain ⟨x1, ⟨N, b, D⟩⟩ := x
      obtain ⟨rfl, hN, hb, hD⟩ := hx
      simp only at hN hb hD
      refine ⟨(IntKind.i64.wrap ((j : Int) + 1), ⟨N, b, upd2 D i j (max (z.D i j) (w.D i j))⟩), ?_, wsucc (by omega), hN, hb, fun p q => ?_⟩
      · unfold zone_both_zone_Join_1_l3 zone_Join_1
        simp only
        rw [if_pos (lt7 hj), e2, inA_nat hj, inA_nat hi]; rfl
      · show upd2 D i j _ p q = _
        rw [u2]
        by_cases c : p = i ∧ q = j
        · obtain ⟨rfl, rfl⟩ := c
          rw [if_pos ⟨rfl, rfl⟩, if_pos (by omega)]
        · rw [if_neg c, hD]
          by_cases d : (p < i ∧ q < 7) ∨ (p = i ∧ q < j)
          · rw [if_pos d, if_pos (by omega)]
          · rw [if_neg d, if_neg (by omega)]) (fun x hx => by
      obtain ⟨x1, y⟩ := x
      obtain ⟨rfl, hN, hb, hD⟩ := hx
      refine ⟨.inr y, rfl, y, rfl, hN, hb, fun p q => ?_⟩
      rw [hD]
      by_cases d : p < i + 1 ∧ q < 7
      · rw [if_pos (by omega), if_pos d]
      · rw [if_neg (by omega), if_neg d]) (0, y) ⟨rfl, hN, hb, fun p q => by
        rw [hD]
        by_cases d : p < i ∧ q < 7
        · rw [if_pos d, if_pos (by omega)]
        · rw [if_neg d, if_neg (by omega)]⟩
    obtain ⟨y', rfl, b1, b2, b3⟩ := a2
    exact ⟨y', a1, b1, b2, b3⟩
  obtain ⟨o, a1, a2⟩ := iter_inv (body := zone_both_zone_Join_1_l2 z w) 7 (fun i x => x.1 = (i : Int) ∧ x.2.N = (n : Int) ∧ x.2.None = false ∧ ∀ p q, x.2.D p q = if p < i ∧ q < 7 then max (z.D p q) (w.D p q) else z.D p q)
    (fun o => ∃ y', o = .inr y' ∧ y'.N = (n : Int) ∧ y'.None = false ∧ ∀ p q, y'.D p q = if p < 7 ∧ q < 7 then max (z.D p q) (w.D p q) else z.D p q) (fun i x hi hx => by
    obtain ⟨x1, y⟩ := x
    obtain ⟨rfl, hN, hb, hD⟩ := hx
    obtain ⟨y', q1, q2, q3, q4⟩ := in3 i ((i : Int), y) y hi rfl hN hb hD
    refine ⟨(IntKind.i64.wrap ((i : Int) + 1), y'), ?_, wsucc (by omega), q2, q3, q4⟩
    unfold zone_both_zone_Join_1_l2
    simp only
    rw [if_pos (lt7 hi), inA_nat hi, sb, q1]; rfl) (fun x hx => by
    obtain ⟨x1, y⟩ := x
    obtain ⟨rfl, hN, hb, hD⟩ := hx
    exact ⟨.inr y, rfl, y, rfl, hN, hb, hD⟩) (0, z) ⟨rfl, h1, h3, fun p q => by rw [if_neg (by omega)]⟩
  obtain ⟨y, rfl, b1, b2, b3⟩ := a2
  refine ⟨y, ?_, b1, b2, b3⟩
  unfold zone_Join zone_both_zone_Join_1
  rw [alike_ok hn h1 h2, sb, if_neg (by simp), h4, sb, if_neg (by simp), if_neg (by rw [h3]; simp), a1]; rfl
theorem ZWithin_law {n : Nat} (hn : n ≤ 6) {z w : zone_Zone} (h1 : z.N = (n : Int)) (h2 : w.N = (n : Int)) (h3 : z.None = false) (h4 : w.None = false) (h : ∀ p q, p < 7 → q < 7 → z.D p q ≤ w.D p q) : zone_Within z w = some true := by
  have in2 : ∀ i : Nat, i < 7 → iter (zone_Within_l2 z w i (i : Int)) 0 = some (.inr ()) := fun i hi => by
    obtain ⟨o, a1, a2⟩ := iter_inv (body := zone_Within_l2 z w i (i : Int)) 7 (fun j x => x = (j : Int)) (fun o => o = .inr ()) (fun j x hj hx => by
      subst hx
      refine ⟨IntKind.i64.wrap ((j : Int) + 1), ?_, wsucc (by omega)⟩
      have := h i j hi hj
      unfold zone_Within_l2
      rw [if_pos (lt7 hj), inA_nat hj, inA_nat hi, sb, sb, sb, if_neg (by simpa using this)]) (fun x hx => by
      subst hx; exact ⟨_, rfl, rfl⟩) 0 rfl
    rw [a1, a2]
  obtain ⟨o, a1, a2⟩ := iter_inv (body := zone_Within_l1 z w) 7 (fun i x => x = (i : Int)) (fun o => o = .inr ()) (fun i x hi hx => by
    subst hx
    refine ⟨IntKind.i64.wrap ((i : Int) + 1), ?_, wsucc (by omega)⟩
    unfold zone_Within_l1
    rw [if_pos (lt7 hi), inA_nat hi, sb, in2 i hi]; rfl) (fun x hx => by
    subst hx; exact ⟨_, rfl, rfl⟩) 0 rfl
  subst a2
  unfold zone_Within
  rw [alike_ok hn h1 h2, sb, if_neg (by simp), if_neg (by rw [h3]; simp), if_neg (by rw [h4]; simp), a1]; rfl
theorem TWithin_law {a b : num_Num} (ha : a.None = false) (h : zone_Within a.Z b.Z = some true) : trans_Within ⟨a, [], []⟩ ⟨b, [], []⟩ = some true := by
  unfold trans_Within trans_Empty trans_alike num_Within
  simp only [ha, sb, h]
  show (iter (trans_Within_l2 ⟨a, [], []⟩ ⟨b, [], []⟩) 0 >>= _) = _
  rw [iter_eq, show trans_Within_l2 ⟨a, [], []⟩ ⟨b, [], []⟩ 0 = some (.inr (.inr ())) from rfl]
  show (iter (trans_Within_l3 ⟨a, [], []⟩ ⟨b, [], []⟩) 0 >>= _) = _
  rw [iter_eq, show trans_Within_l3 ⟨a, [], []⟩ ⟨b, [], []⟩ 0 = some (.inr (.inr ())) from rfl]
  rfl
theorem skip_step {e : flow_Edge} {n : Int} {a : num_Num} (hk : e.Kind = 0) (ha : a.None = false) : trans_stepper_step (ste e n a) = some (ste e n a) := by
  have hk' : (ste e n a).f_e.Kind = 0 := hk
  unfold trans_stepper_step
  rw [hk', if_neg (by decide), if_neg (by decide), if_neg (by decide), if_neg (by decide), if_neg (by decide), if_neg (by decide), sb]
  unfold trans_Empty
  show (some a.None >>= _) = _
  rw [ha]; rfl
theorem input_step {e : flow_Edge} {n : Int} {a b : num_Num} (hk : e.Kind = 6) (hb : b.None = false) (hq : num_Set a e.Var ⟨-2147483648, 2147483647⟩ = some b) : trans_stepper_step (ste e n a) = some (ste e n b) := by
  have hk' : (ste e n a).f_e.Kind = 6 := hk
  have hq' : num_Set (ste e n a).f_a.N (ste e n a).f_e.Var ⟨-2147483648, 2147483647⟩ = some b := hq
  unfold trans_stepper_step
  rw [hk', if_neg (by decide), if_neg (by decide), if_neg (by decide), if_pos (by decide), show itv_All = some ⟨-2147483648, 2147483647⟩ from rfl, sb, hq', sb, sb, sb]
  show (trans_Empty ⟨b, [], []⟩ >>= _) = _
  unfold trans_Empty
  show (some b.None >>= _) = _
  rw [hb]; rfl
theorem kinds0 : kindsOf f0 7 = [] := rfl
/-- Two rows, joined. -/
theorem Join_law {v1 v2 : Nat → Int} (hv1 : Va 2 v1) (hv2 : Va 2 v2) {a b : num_Num} (ha : TR 2 v1 a) (hb : TR 2 v2 b) :
    ∃ c, num_Join a b = some c ∧ NSat 2 v1 c ∧ NSat 2 v2 c ∧ (∀ p q, p ≤ 2 → q ≤ 2 → c.Z.D p q ≤ max (v1 p - v1 q) (v2 p - v2 q)) := by
  obtain ⟨y, q1, q2, q3, q4⟩ := ZJoin_law (n := 2) (by decide) ha.s.z.N hb.s.z.N ha.s.z.none hb.s.z.none
  have hD : ∀ p q, p ≤ 2 → q ≤ 2 → y.D p q = max (a.Z.D p q) (b.Z.D p q) := fun p q hp hq => by rw [q4, if_pos (by omega)]
  have s1 : Sat 2 v1 y := ⟨q2, q3, fun i j hi hj => by
    rw [hD i j hi hj]; have := ha.s.z.lo i j hi hj; omega, fun i j hi hj => by
    rw [hD i j hi hj]; have := ha.s.z.hi i j hi hj; have := hb.s.z.hi i j hi hj; omega⟩
  have s2 : Sat 2 v2 y := ⟨q2, q3, fun i j hi hj => by
    rw [hD i j hi hj]; have := hb.s.z.lo i j hi hj; omega, s1.hi⟩
  refine ⟨⟨false, nI y 2, y⟩, ?_, nsat_of s1, nsat_of s2, fun p q hp hq => ?_⟩
  · unfold num_Join
    rw [q1, sb, of_law hv1 s1]; rfl
  · show y.D p q ≤ _
    rw [hD p q hp hq]
    have := ha.t p q hp hq; have := hb.t p q hp hq; omega
theorem idx0 {z : zone_Zone} : idx (nI z 2) 0 = some (zI z 0) := rfl
theorem idx1 {z : zone_Zone} : idx (nI z 2) 1 = some (zI z 1) := rfl
section
variable {a0 : Nat → Int} {a1 : l14_More}
theorem start2 (e : flow_Edge) : ∃ a, trans_Start (sys e 2) 0 = some ⟨a, [], []⟩ := by
  obtain ⟨a, q, _⟩ := Start_law e (n := 2) (by decide)
  exact ⟨a, q⟩
theorem rem1000 (c : Int) : ∃ r, rem c 1000 = some r ∧ In r := by
  refine ⟨c.tmod 1000, by unfold rem; rw [if_neg (by decide)], ?_⟩
  have h1 := Int.tmod_lt_of_pos c (b := 1000) (by decide)
  have h2 := Int.lt_tmod_of_pos c (b := 1000) (by decide)
  exact ⟨by omega, by omega⟩
theorem row2 {x y : Int} (hx : In x) (hy : In y) : ∃ a, l14_row [x, y] = some a ∧ TR 2 (va [x, y] 2) a := by
  exact rowT_law [x, y] (Nat.le_of_ble_eq_true rfl) fun z hz => by
    simp only [List.mem_cons, List.not_mem_nil, or_false] at hz
    rcases hz with rfl | rfl
    · exact ⟨hx.lo, hx.hi⟩
    · exact ⟨hy.lo, hy.hi⟩
theorem s1_0 (hx : In (a0 0)) (hy : In (a0 1)) : l14_TransSkips_l1 a0 a1 0 = some (.inl 1) := by
  have x1 := hx.lo; have x2 := hx.hi; have y1 := hy.lo; have y2 := hy.hi
  unfold l14_TransSkips_l1
  rw [w64 (n := a0 0) (by omega) (by omega), w64 (n := a0 1) (by omega) (by omega)]
  generalize a0 0 = x at *
  generalize a0 1 = y at *
  obtain ⟨e, he⟩ : ∃ e : flow_Edge, e = ⟨0, 1, 0, 0, 0, 0, ⟨0, 0, 0, []⟩, C0⟩ := ⟨_, rfl⟩
  obtain ⟨a, qa⟩ := start2 e
  obtain ⟨r, qr, pr⟩ := row2 hx hy
  obtain ⟨m, qm, hm⟩ := rem1000 a1.Counts
  obtain ⟨r', qr', pr'⟩ := row2 (x := 0) (y := m) ⟨by decide, by decide⟩ hm
  have hz : In 0 := ⟨by decide, by decide⟩
  obtain ⟨c, qc, sc, _, _⟩ := Join_law (va_ok hx hy) (va_ok hz hm) pr pr'
  have hst := Step_law (e := e) (n := 2) sc.none (skip_step (n := 2) (a := c) (by rw [he]) sc.none)
  have hw : trans_Within ⟨c, [], []⟩ ⟨c, [], []⟩ = some true := TWithin_law sc.none (ZWithin_law (n := 2) (by decide) sc.z.N sc.z.N sc.z.none sc.z.none fun _ _ _ _ => Int.le_refl _)
  have hI := sc.I
  rw [if_pos (by decide), show lsub [flow_Edge.mk 0 1 0 0 0 0 (check_Expr.mk 0 0 0 []) (check_Cond.mk 0 (check_Expr.mk 0 0 0 []) (check_Expr.mk 0 0 0 [])), flow_Edge.mk 0 1 6 1 0 0 (check_Expr.mk 0 0 0 []) (check_Cond.mk 0 (check_Expr.mk 0 0 0 []) (check_Expr.mk 0 0 0 []))] 0 (IntKind.i64.wrap (0 + 1)) = some [e] by rw [he]; rfl, sb]
  show (trans_Start (sys e 2) 0 >>= _) = _
  rw [qa, sb, qr, sb, qm, sb, qr', sb, qc, sb, sb]
  show (trans_Step (wrl e 2) 0 0 ⟨c, [], []⟩ >>= _) = _
  rw [hst, sb]
  have c0 : trans_Empty (ste e 2 c).f_a = some false := by unfold trans_Empty; show some c.None = _; rw [sc.none]
  rw [c0, sb, if_neg (by simp)]
  show ((if ((kindsOf f0 7).length : Int) != 0 then _ else _) >>= _) = _
  rw [kinds0, if_neg (by decide)]
  show ((if ((c.I.length : Int) != 2) = true then _ else _) >>= _) = _
  rw [hI, if_neg (by unfold nI; simp)]
  show ((idx c.I 0 >>= _) >>= _) = _
  rw [hI, idx0, sb, sb, sb, if_neg (by simp), if_pos (by decide)]
  show (((trans_Within ⟨c, [], []⟩ ⟨c, [], []⟩ >>= _)) >>= _) = _
  rw [hw, sb, if_neg (by simp), if_neg (by decide)]
  show (((trans_Within ⟨c, [], []⟩ ⟨c, [], []⟩ >>= _)) >>= _) = _
  rw [hw]; rfl
theorem s1_1 (hx : In (a0 0)) (hy : In (a0 1)) : l14_TransSkips_l1 a0 a1 1 = some (.inl 2) := by
  have x1 := hx.lo; have x2 := hx.hi; have y1 := hy.lo; have y2 := hy.hi
  unfold l14_TransSkips_l1
  rw [w64 (n := a0 0) (by omega) (by omega), w64 (n := a0 1) (by omega) (by omega)]
  generalize a0 0 = x at *
  generalize a0 1 = y at *
  obtain ⟨e, he⟩ : ∃ e : flow_Edge, e = ⟨0, 1, 6, 1, 0, 0, ⟨0, 0, 0, []⟩, C0⟩ := ⟨_, rfl⟩
  obtain ⟨a, qa⟩ := start2 e
  obtain ⟨r, qr, pr⟩ := row2 hx hy
  obtain ⟨m, qm, hm⟩ := rem1000 a1.Counts
  have hz : In 0 := ⟨by decide, by decide⟩
  obtain ⟨r', qr', pr'⟩ := row2 (x := 0) (y := m) hz hm
  have hv1 := va_ok hx hy
  have hv2 := va_ok hz hm
  obtain ⟨c, qc, sc, sc2, hle⟩ := Join_law hv1 hv2 pr pr'
  have hall : ∀ k : Int, In k → IHas ⟨-2147483648, 2147483647⟩ k := fun k hk => ⟨hk.lo, hk.hi⟩
  have hrr : -2147483648 ≤ (itv_Itv.mk (-2147483648) 2147483647).Lo ∧ (itv_Itv.mk (-2147483648) 2147483647).Hi ≤ 9223372036854775807 := ⟨by decide, by decide⟩
  have hMx : In 2147483647 := ⟨by decide, by decide⟩
  have hMn : In (-2147483648) := ⟨by decide, by decide⟩
  obtain ⟨b, qb, sb1, off, u1, u2', ou, _⟩ := SetT_law hv1 hv1 sc 1 (by decide) (fun _ _ => rfl) ⟨-2147483648, 2147483647⟩ (hall _ hy) hrr
  obtain ⟨b2, qb2, sb2, _⟩ := SetT_law hv2 hv2 sc2 1 (by decide) (fun _ _ => rfl) ⟨-2147483648, 2147483647⟩ (hall _ hm) hrr
  obtain ⟨b3, qb3, sb3, _⟩ := SetT_law hv1 (va_ok hx hMx) sc 1 (by decide) (fun i hi => va_eq i hi) ⟨-2147483648, 2147483647⟩ (hall _ hMx) hrr
  obtain ⟨b4, qb4, sb4, _⟩ := SetT_law hv1 (va_ok hx hMn) sc 1 (by decide) (fun i hi => va_eq i hi) ⟨-2147483648, 2147483647⟩ (hall _ hMn) hrr
  obtain rfl : b = b2 := Option.some.inj (qb.symm.trans qb2)
  obtain rfl : b = b3 := Option.some.inj (qb.symm.trans qb3)
  obtain rfl : b = b4 := Option.some.inj (qb.symm.trans qb4)
  have hcb : ∀ p q, c.Z.D p q ≤ b.Z.D p q := fun p q => by
    by_cases hpq : p ≤ 2 ∧ q ≤ 2
    · have k1 := hle p q hpq.1 hpq.2
      have k2 := sb1.z.lo p q hpq.1 hpq.2
      have k3 := sb2.z.lo p q hpq.1 hpq.2
      omega
    · rw [ou p q (by omega)]; exact Int.le_refl _
  have hw : trans_Within ⟨c, [], []⟩ ⟨b, [], []⟩ = some true := TWithin_law sc.none (ZWithin_law (n := 2) (by decide) sc.z.N sb1.z.N sc.z.none sb1.z.none fun p q _ _ => hcb p q)
  have hI0 : zI b.Z 0 = zI c.Z 0 := by
    have k1 := hcb 0 1; have k2 := hcb 1 0
    have k3 := off 0 1 (by decide) (by decide) (by decide) (by decide)
    have k4 := off 1 0 (by decide) (by decide) (by decide) (by decide)
    unfold zI
    rw [show b.Z.D 0 (0 + 1) = c.Z.D 0 (0 + 1) by simp only [Nat.zero_add]; omega, show b.Z.D (0 + 1) 0 = c.Z.D (0 + 1) 0 by simp only [Nat.zero_add]; omega]
  have hI1 : zI b.Z 1 = ⟨-2147483648, 2147483647⟩ := by
    have k1 := sb3.z.lo 2 0 (by decide) (by decide)
    have k2 := sb4.z.lo 0 2 (by decide) (by decide)
    rw [va2, va0] at k1
    rw [va2, va0] at k2
    simp only [Nat.reduceAdd] at u1 u2'
    unfold zI
    rw [show b.Z.D 0 (1 + 1) = 2147483648 by simp only [Nat.reduceAdd]; omega, show b.Z.D (1 + 1) 0 = 2147483647 by simp only [Nat.reduceAdd]; omega]
    rfl
  have hst := Step_law (e := e) (n := 2) sc.none (input_step (e := e) (n := 2) (a := c) (b := b) (by rw [he]) sb1.none (by rw [he]; exact qb))
  have hI := sc.I
  have hJ := sb1.I
  rw [if_pos (by decide), show lsub [flow_Edge.mk 0 1 0 0 0 0 (check_Expr.mk 0 0 0 []) (check_Cond.mk 0 (check_Expr.mk 0 0 0 []) (check_Expr.mk 0 0 0 [])), flow_Edge.mk 0 1 6 1 0 0 (check_Expr.mk 0 0 0 []) (check_Cond.mk 0 (check_Expr.mk 0 0 0 []) (check_Expr.mk 0 0 0 []))] 1 (IntKind.i64.wrap (1 + 1)) = some [e] by rw [he]; rfl, sb]
  show (trans_Start (sys e 2) 0 >>= _) = _
  rw [qa, sb, qr, sb, qm, sb, qr', sb, qc, sb, sb]
  show (trans_Step (wrl e 2) 0 0 ⟨c, [], []⟩ >>= _) = _
  rw [hst, sb]
  have c0 : trans_Empty (ste e 2 b).f_a = some false := by unfold trans_Empty; show some b.None = _; rw [sb1.none]
  rw [c0, sb, if_neg (by simp)]
  show ((if ((kindsOf f0 7).length : Int) != 0 then _ else _) >>= _) = _
  rw [kinds0, if_neg (by decide)]
  show ((if ((b.I.length : Int) != 2) = true then _ else _) >>= _) = _
  rw [hJ, if_neg (by unfold nI; simp)]
  show ((idx b.I 0 >>= _) >>= _) = _
  rw [hJ, idx0, sb]
  show ((idx c.I 0 >>= _) >>= _) = _
  rw [hI, idx0, sb, hI0, sb, if_neg (by simp), if_neg (by decide), if_pos (by decide)]
  show ((idx b.I 1 >>= _) >>= _) = _
  rw [hJ, idx1, sb, hI1, show itv_All = some ⟨-2147483648, 2147483647⟩ from rfl, sb, if_neg (by simp)]
  show (((trans_Within ⟨c, [], []⟩ ⟨b, [], []⟩ >>= _)) >>= _) = _
  rw [hw]; rfl
theorem skips_law (hx : In (a0 0)) (hy : In (a0 1)) : l14_TransSkips a0 a1 = some true := by
  unfold l14_TransSkips
  rw [iter_eq, s1_0 hx hy]
  show (iter _ 1 >>= _) = _
  rw [iter_eq, s1_1 hx hy]
  show (iter _ 2 >>= _) = _
  rw [iter_eq, show l14_TransSkips_l1 a0 a1 2 = some (.inr (.inr ())) by unfold l14_TransSkips_l1; rfl]
  show (l14_steps >>= _) = _
  rw [steps_law]; rfl
end
end Go.Proofs.YtbebnddalipfhaaGreat.Abs
