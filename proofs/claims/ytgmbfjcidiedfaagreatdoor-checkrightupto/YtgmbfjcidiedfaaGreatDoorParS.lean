/- Loops over lists: what they come to. -/
import Derived.Test.YtgmbfjcidiedfaaGreatDoorPlB
import Derived.Test.YtgmbfjcidiedfaaGreatDoorParT
import Derived.Test.YtgmbfjcidiedfaaGreatDoorAbsB
import Derived.Test.YtgmbfjcidiedfaaGreatDoorGwF
namespace Go.Proofs.YtgmbfjcidiedfaaGreatDoor.Abs.Ck
open Go Go.RowKit Wri
set_option linter.unusedVariables false
set_option linter.unusedSimpArgs false
theorem z005 {β γ O : Type} {body : Int × List γ → Option (Sum (Int × List γ) (Sum O (List γ)))} {n H : Nat} (f : β → γ) (a1 : List β) (hlen : a1.length ≤ 400000000000)
  (hs : ∀ (i : Nat) x acc, i < a1.length → idx a1 (i : Int) = some x → x ∈ a1 → acc.length = i → IntKind.i64.wrap ((i : Int) + 1) = ((i + 1 : Nat) : Int) → Sn n H (body ((i : Int), acc)) (.inl (((i + 1 : Nat) : Int), acc ++ [f x])))
  (he : ∀ acc, body ((a1.length : Int), acc) = some (.inr (.inr acc))) :
  ∀ (l : List β) (i : Nat) (acc : List γ), a1.drop i = l → i ≤ a1.length → acc.length = i → Sn n H (iter body ((i : Int), acc)) (.inr (acc ++ l.map f)) := by
 intro l
 induction l with
 | nil =>
  intro i acc hd hi ha
  have : i = a1.length := by have := List.drop_eq_nil_iff.1 hd; omega
  subst this
  exact .inl (by rw [z56 (he acc)]; simp)
 | cons s r ih =>
  intro i acc hd hi ha
  have hlt : i < a1.length := by
   refine Nat.lt_of_not_le fun h => ?_
   rw [List.drop_of_length_le h] at hd; cases hd
  rw [List.drop_eq_getElem_cons hlt] at hd
  injection hd with h1 h2
  have hi2 : idx a1 (i : Int) = some s := by rw [zm6 hlt, h1]
  have hw : IntKind.i64.wrap ((i : Int) + 1) = ((i + 1 : Nat) : Int) := by rw [w64 (by omega) (by omega)]; omega
  have hm : s ∈ a1 := by rw [← h1]; exact List.getElem_mem hlt
  have h3 := hs i s acc hlt hi2 hm ha hw
  have h4 := ih (i + 1) (acc ++ [f s]) h2 hlt (by simp; omega)
  rw [zc9]
  refine Sn.bind h3 ?_
  simpa using h4
theorem zl0 {β γ O : Type} {body : Int × List γ → Option (Sum (Int × List γ) (Sum O (List γ)))} {n H : Nat} (f : β → γ) (a1 : List β) (hlen : a1.length ≤ 400000000000)
  (hs : ∀ (i : Nat) x acc, i < a1.length → idx a1 (i : Int) = some x → x ∈ a1 → acc.length = i → IntKind.i64.wrap ((i : Int) + 1) = ((i + 1 : Nat) : Int) → Sn n H (body ((i : Int), acc)) (.inl (((i + 1 : Nat) : Int), acc ++ [f x])))
  (he : ∀ acc, body ((a1.length : Int), acc) = some (.inr (.inr acc))) : Sn n H (iter body (0, [])) (.inr (a1.map f)) := by
 have := z005 f a1 hlen hs he a1 0 [] rfl (by omega) rfl
 simpa using this
theorem zlv {β γ O : Type} {body : Int × List γ → Option (Sum (Int × List γ) (Sum O (List γ)))} (f : β → γ) (a1 : List β) (hlen : a1.length ≤ 400000000000)
  (hs : ∀ (i : Nat) x acc, i < a1.length → idx a1 (i : Int) = some x → x ∈ a1 → acc.length = i → IntKind.i64.wrap ((i : Int) + 1) = ((i + 1 : Nat) : Int) → body ((i : Int), acc) = some (.inl (((i + 1 : Nat) : Int), acc ++ [f x])))
  (he : ∀ acc, body ((a1.length : Int), acc) = some (.inr (.inr acc))) : iter body (0, []) = some (.inr (a1.map f)) := by
 rcases zl0 (n := 0) (H := 0) f a1 hlen (fun i x acc h1 h2 h3 h4 h5 => .inl (hs i x acc h1 h2 h3 h4 h5)) he with h | ⟨_, h⟩
 ·exact h
 ·omega
theorem zxt {i : Nat} (h : i < 4611686018427387904) : IntKind.i64.wrap ((i : Int) + 1) = ((i + 1 : Nat) : Int) := by rw [w64 (by omega) (by omega)]; omega
/-- A loop that ends at the first that isn't. -/
theorem zxu {β O : Type} {body : Int → Option (Sum Int (Sum O Unit))} {n H : Nat} (l : List β) (p : β → Bool) (r : O) (hlen : l.length ≤ 4611686018427387904)
  (hs : ∀ (i : Nat) (x : β), l[i]? = some x → idx l (i : Int) = some x → x ∈ l → i < l.length → IntKind.i64.wrap ((i : Int) + 1) = ((i + 1 : Nat) : Int) → Sn n H (body (i : Int)) (if p x then .inl ((i + 1 : Nat) : Int) else .inr (.inl r)))
  (he : body (l.length : Int) = some (.inr (.inr ()))) : ∀ (m : List β) (i : Nat), l.drop i = m → i ≤ l.length → Sn n H (iter body (i : Int)) (if m.all p then .inr () else .inl r) := by
 intro m
 induction m with
 | nil =>
  intro i hd hi
  have : i = l.length := by have := List.drop_eq_nil_iff.1 hd; omega
  subst this
  exact .inl (by rw [z56 he]; rfl)
 | cons x m ih =>
  intro i hd hi
  have hlt : i < l.length := by
   refine Nat.lt_of_not_le fun h => ?_
   rw [List.drop_of_length_le h] at hd; cases hd
  rw [List.drop_eq_getElem_cons hlt] at hd
  injection hd with h1 h2
  have h3 := hs i x (by rw [← h1]; exact List.getElem?_eq_getElem hlt) (by rw [zm6 hlt, h1]) (by rw [← h1]; exact List.getElem_mem hlt) hlt (zxt (by omega))
  rw [zc9]
  refine Sn.bind (f := _) h3 ?_
  cases hp : p x with
  | true =>
   have h4 := ih (i + 1) h2 hlt
   simp only [List.all_cons, hp, Bool.true_and, if_true]
   exact h4
  | false =>
   simp only [List.all_cons, hp, Bool.false_and, Bool.false_eq_true, if_false]
   exact .inl rfl
theorem zml {β O : Type} {body : Int → Option (Sum Int (Sum O Unit))} {n H : Nat} (l : List β) (p : β → Bool) (r : O) (hlen : l.length ≤ 4611686018427387904)
  (hs : ∀ (i : Nat) (x : β), l[i]? = some x → idx l (i : Int) = some x → x ∈ l → i < l.length → IntKind.i64.wrap ((i : Int) + 1) = ((i + 1 : Nat) : Int) → Sn n H (body (i : Int)) (if p x then .inl ((i + 1 : Nat) : Int) else .inr (.inl r)))
  (he : body (l.length : Int) = some (.inr (.inr ()))) : Sn n H (iter body 0) (if l.all p then .inr () else .inl r) := zxu l p r hlen hs he l 0 rfl (by omega)
theorem zib {β O : Type} {body : Int → Option (Sum Int (Sum O Unit))} (l : List β) (p : β → Bool) (r : O) (hlen : l.length ≤ 4611686018427387904)
  (hs : ∀ (i : Nat) (x : β), l[i]? = some x → idx l (i : Int) = some x → x ∈ l → i < l.length → IntKind.i64.wrap ((i : Int) + 1) = ((i + 1 : Nat) : Int) → body (i : Int) = some (if p x then .inl ((i + 1 : Nat) : Int) else .inr (.inl r)))
  (he : body (l.length : Int) = some (.inr (.inr ()))) : iter body 0 = some (if l.all p then .inr () else .inl r) := by
 rcases zml (n := 0) (H := 0) l p r hlen (fun i x h1 h2 h3 h4 h5 => .inl (hs i x h1 h2 h3 h4 h5)) he with h | ⟨_, h⟩
 ·exact h
 ·omega
end Go.Proofs.YtgmbfjcidiedfaaGreatDoor.Abs.Ck
/- The statements' systems with numbers, turned to the program's. -/
namespace Go.Proofs.YtgmbfjcidiedfaaGreatDoor.Abs.Ck
open Go Go.RowKit Wri
set_option linter.unusedVariables false
set_option linter.unusedSimpArgs false
mutual
def kzE : z34 → Nat
 | ⟨_, _, _, l⟩ => 1 + zEs l
def zEs : List z34 → Nat
 | [] => 0
 | e :: r => kzE e + zEs r
end
mutual
def tE : z34 → z0h
 | ⟨k, n, v, l⟩ => ⟨k, n, v, tEs l⟩
def tEs : List z34 → List z0h
 | [] => []
 | e :: r => tE e :: tEs r
end
theorem zju : ∀ l, tEs l = l.map tE
 | [] => rfl
 | e :: r => by simp only [tEs, List.map_cons, zju r]
theorem zxv (e : z34) : 1 ≤ kzE e := by cases e; simp only [kzE]; omega
theorem zxw : ∀ {l : List z34} {x : z34}, x ∈ l → kzE x ≤ zEs l
 | y :: r, x, h => by
  rcases List.mem_cons.1 h with rfl | h
  ·simp only [zEs]; omega
  ·have := zxw h; simp only [zEs]; omega
theorem zxx : ∀ l : List z34, l.length ≤ zEs l
 | [] => by simp
 | e :: r => by have := zxx r; have := zxv e; simp only [zEs, List.length_cons]; omega
theorem kcvE : ∀ (N : Nat) (e : z34), kzE e ≤ N → N ≤ 400000000000 → ∀ n, Sn n (kzE e) (zb2 n e) (tE e) := by
 intro N
 induction N with
 | zero => intro e he; have := zxv e; omega
 | succ N ih =>
  intro e he hN n
  obtain ⟨k, m, s, l⟩ := e
  simp only [tE, kzE] at he ⊢
  cases n with
  | zero => exact .inr ⟨rfl, by omega⟩
  | succ n =>
   have hl := zxx l
   have h := zl0 (n := n) (H := zEs l) (body := zcy (zb2 n) ⟨k, m, s, l⟩) tE l (by omega)
    (fun i x acc hi hx hm ha hw => by
     unfold zcy
     rw [if_pos (by simpa using hi)]
     simp only [hx, Option.bind_eq_bind, Option.bind_some, hw]
     have hz := zxw hm
     refine Sn.bind (f := _) ((ih x (by omega) (by omega) n).mono hz) (.inl ?_)
     rw [zae (by simp; omega)]
     rfl)
    (fun acc => by unfold zcy; rw [if_neg (by simp)])
   have t2 := (Sn.bind (f := Sum.elim (fun _ => none) (fun j1 => some (z0h.mk k m s j1))) h (.inl (by rw [← zju]; rfl : _ = some (z0h.mk k m s (tEs l))))).up
   exact t2.mono (by omega)
theorem zp9 {e : z34} (h : kzE e ≤ 400000000000) : zkk e = some (tE e) := Sn.unf fun n => kcvE _ e (Nat.le_refl _) h n
def kzC (c : z8d) : Nat := 1 + kzE c.L + kzE c.R
def tC (c : z8d) : z4y := ⟨c.Op, tE c.L, tE c.R⟩
mutual
def zS : z0v → Nat
 | .mk _ _ _ _ e c b l a => 4 + kzE e + kzC c + zL b + zL l + kzA a
def zL : List z0v → Nat
 | [] => 1
 | s :: r => zS s + zL r
def kzA : List z5w → Nat
 | [] => 1
 | .mk _ _ b :: r => 2 + zL b + kzA r
end
mutual
def tS : z0v → z09
 | .mk k v ch t e c b l a => .mk k v ch t (tE e) (tC c) (tL b) (tL l) (tA a)
def tL : List z0v → List z09
 | [] => []
 | s :: r => tS s :: tL r
def tA : List z5w → List z2i
 | [] => []
 | .mk t v b :: r => .mk t v (tL b) :: tA r
end
def tArm (x : z5w) : z2i := .mk x.Tag x.Var (tL x.Body)
theorem zno : ∀ l, tL l = l.map tS
 | [] => rfl
 | e :: r => by simp only [tL, List.map_cons, zno r]
theorem ztz : ∀ l, tA l = l.map tArm
 | [] => rfl
 | .mk t v b :: r => by simp only [tA, List.map_cons, ztz r]; rfl
theorem ziv (l : List z0v) : 1 ≤ zL l := by cases l with
 | nil => simp [zL]
 | cons s r => cases s; simp only [zL, zS]; omega
theorem z065 (l : List z5w) : 1 ≤ kzA l := by cases l with
 | nil => simp [kzA]
 | cons s r => cases s; simp only [kzA]; omega
theorem zu0 : ∀ {l : List z0v} {x : z0v}, x ∈ l → zS x + 1 ≤ zL l
 | y :: r, x, h => by
  have := ziv r
  rcases List.mem_cons.1 h with rfl | h
  ·simp only [zL]; omega
  ·have := zu0 h; simp only [zL]; omega
theorem zu1 : ∀ {l : List z5w} {x : z5w}, x ∈ l → zL x.Body + 3 ≤ kzA l
 | .mk t v b :: r, x, h => by
  have := z065 r
  rcases List.mem_cons.1 h with rfl | h
  ·simp only [kzA]; show zL b + 3 ≤ _; omega
  ·have := zu1 h; simp only [kzA]; omega
theorem zu2 : ∀ l : List z0v, l.length ≤ zL l
 | [] => by simp
 | s :: r => by have := zu2 r; cases s; simp only [zL, zS, List.length_cons]; omega
theorem zu3 : ∀ l : List z5w, l.length ≤ kzA l
 | [] => by simp
 | .mk t v b :: r => by have := zu3 r; simp only [kzA, List.length_cons]; omega
theorem kcvL : ∀ (N : Nat) (l : List z0v), zL l ≤ N → N ≤ 400000000000 → ∀ n, Sn n (zL l) (z8j n l) (tL l) := by
 intro N
 induction N with
 | zero => intro l hl; have := ziv l; omega
 | succ N ih =>
  intro l hl hN n
  cases n with
  | zero => exact .inr ⟨rfl, by have := ziv l; omega⟩
  | succ n =>
   have hlen := zu2 l
   have hp := ziv l
   have h := zl0 (n := n) (H := zL l - 1) (body := zby (z8j n) l) tS l (by omega)
    (fun i x acc hi hx hm ha hw => by
     have hz := zu0 hm
     obtain ⟨k, v, chn, tg, e, c, b, el, ar⟩ := x
     simp only [zS, kzC] at hz
     unfold zby
     rw [if_pos (by simpa using hi)]
     simp only [hx, Option.bind_eq_bind, Option.bind_some, hw]
     dsimp only [z0v.Kind, z0v.Var, z0v.Chan, z0v.Tag, z0v.E, z0v.C, z0v.Body, z0v.Else, z0v.Arms]
     rw [zp9 (e := e) (by omega), zp9 (e := c.L) (by omega), zp9 (e := c.R) (by omega)]
     simp only [Option.bind_some]
     refine Sn.bind (f := _) ((ih b (by omega) (by omega) n).mono (by omega)) ?_
     refine Sn.bind (f := _) ((ih el (by omega) (by omega) n).mono (by omega)) ?_
     have hal := zu3 ar
     have harm := zl0 (n := n) (H := zL l - 1) (body := zbx (z8j n) (.mk k v chn tg e c b el ar)) tArm ar (by omega)
      (fun i x acc hi hx hm ha hw => by
       have hz2 := zu1 hm
       unfold zbx
       rw [if_pos (by show decide ((i : Int) < (ar.length : Int)) = true; simpa using hi)]
       dsimp only [z0v.Arms]
       simp only [hx, Option.bind_eq_bind, Option.bind_some, hw]
       refine Sn.bind (f := _) ((ih x.Body (by omega) (by omega) n).mono (by omega)) (.inl ?_)
       rw [zae (by simp; omega)]
       rfl)
      (fun acc => by unfold zbx; rw [if_neg (by simp [z0v.Arms])])
     refine Sn.bind (f := _) harm (.inl ?_)
     simp only [Sum.elim_inr]
     rw [zae (by simp; omega)]
     simp only [Option.bind_some, tS, tC, ztz])
    (fun acc => by unfold zby; rw [if_neg (by simp)])
   have t2 := (Sn.bind (f := Sum.elim (fun _ => none) (fun j1 => some j1)) h (.inl (by rw [← zno]; rfl : _ = some (tL l)))).up
   exact t2.mono (by omega)
theorem zxy {l : List z0v} (h : zL l ≤ 400000000000) : znh l = some (tL l) := Sn.unf fun n => kcvL _ l (Nat.le_refl _) h n
/-! ### Whole systems -/
def tCh (c : z4k) : z0m := ⟨c.Kind, c.Size, c.From, c.To, c.Tags, c.Rule⟩
def tPr (p : ze5) : z0w := ⟨p.Vars, tL p.Body⟩
def tP (p : z2k) : z10 := ⟨p.Chans.map tCh, p.Procs.map tPr⟩
/-- What a system may weigh. -/
def kokP (p : z2k) : Prop := p.Chans.length ≤ 4000000000 ∧ (∀ c ∈ p.Chans, c.Rule.length ≤ 4000000000 ∧ ∀ r ∈ c.Rule, r.length ≤ 4000000000) ∧ p.Procs.length ≤ 4000000000 ∧ ∀ x ∈ p.Procs, zL x.Body ≤ 400000000000
theorem z03g {p : z2k} (h : kokP p) : zkl p = some (tP p) := by
 obtain ⟨h1, h2, h3, h4⟩ := h
 unfold zkl
 rw [zlv (body := zd0 p) tCh p.Chans (by omega) (fun i x acc hi hx hm ha hw => by
  obtain ⟨q1, q2⟩ := h2 x hm
  unfold zd0
  rw [if_pos (by simpa using hi)]
  simp only [hx, Option.bind_eq_bind, Option.bind_some, hw]
  rw [zlv (body := zcz x) (fun r => r) x.Rule (by omega) (fun i r acc hi hx hm ha hw => by
   have q3 := q2 r hm
   unfold zcz
   rw [if_pos (by simpa using hi)]
   simp only [hx, Option.bind_eq_bind, Option.bind_some, hw]
   rw [zae (by simp; omega)]
   simp only [Option.bind_some, List.nil_append]
   rw [zae (by simp; omega)]
   rfl) (fun acc => by unfold zcz; rw [if_neg (by simp)])]
  simp only [Option.bind_some, Sum.elim_inr, List.map_id']
  rw [zae (by simp; omega)]
  rfl) (fun acc => by unfold zd0; rw [if_neg (by simp)])]
 simp only [Option.bind_eq_bind, Option.bind_some, Sum.elim_inr]
 rw [zlv (body := zd1 p) tPr p.Procs (by omega) (fun i x acc hi hx hm ha hw => by
  unfold zd1
  rw [if_pos (by simpa using hi)]
  simp only [hx, Option.bind_eq_bind, Option.bind_some, hw]
  rw [zxy (h4 x hm)]
  simp only [Option.bind_some]
  rw [zae (by simp; omega)]
  rfl) (fun acc => by unfold zd1; rw [if_neg (by simp)])]
 rfl
end Go.Proofs.YtgmbfjcidiedfaaGreatDoor.Abs.Ck
/- What may be an expression: the program's answer and the reference's. -/
namespace Go.Proofs.YtgmbfjcidiedfaaGreatDoor.Abs.Ck
open Go Go.RowKit Wri
set_option linter.unusedVariables false
set_option linter.unusedSimpArgs false
def inR (a b c : Int) : Bool := decide (b ≤ a) && decide (a ≤ c)
theorem zb8 (a b c : Int) : z3l a b c = some (inR a b c) := by
 unfold z3l inR
 by_cases h : a ≥ b
 ·rw [if_pos (by simpa using h)]; simp [show b ≤ a from h]
 ·rw [if_neg (by simpa using h)]; simp [show ¬ b ≤ a from h]
def kN (k : Int) : Int := if k == 1 || k == 2 then 0 else if k == 3 then 1 else if inR k 4 8 then 2 else -1
theorem z066 (k : Int) : zga k = some (kN k) := by
 unfold zga kN
 simp only [zb8, Option.bind_eq_bind, Option.bind_some]
 by_cases h1 : k = 1
 ·subst h1; simp
 ·by_cases h2 : k = 2
  ·subst h2; simp
  ·have e1 : (k == 1) = false := by simpa using h1
   have e2 : (k == 2) = false := by simpa using h2
   simp only [e1, e2, Bool.false_eq_true, if_false, Option.bind_some, Bool.or_self]
   by_cases h3 : k = 3
   ·subst h3; simp
   ·have e3 : (k == 3) = false := by simpa using h3
    simp only [e3, Bool.false_eq_true, if_false]
    cases inR k 4 8 <;> rfl
mutual
def hE : z0h → Nat
 | ⟨_, _, _, l⟩ => 1 + hEs l
def hEs : List z0h → Nat
 | [] => 0
 | e :: r => hE e + hEs r
end
theorem z01o (e : z0h) : 1 ≤ hE e := by cases e; simp only [hE]; omega
theorem zsh : ∀ {l : List z0h} {x : z0h}, x ∈ l → hE x ≤ hEs l
 | y :: r, x, h => by
  rcases List.mem_cons.1 h with rfl | h
  ·simp only [hEs]; omega
  ·have := zsh h; simp only [hEs]; omega
theorem zxz : ∀ l : List z0h, l.length ≤ hEs l
 | [] => by simp
 | e :: r => by have := zxz r; have := z01o e; simp only [hEs, List.length_cons]; omega
mutual
theorem hE_t : ∀ e, hE (tE e) = kzE e
 | ⟨k, n, v, l⟩ => by simp only [tE, hE, kzE, z067 l]
theorem z067 : ∀ l, hEs (tEs l) = zEs l
 | [] => by simp only [tEs, hEs, zEs]
 | e :: r => by simp only [tEs, hEs, zEs, hE_t e, z067 r]
end
def gB (v k n x : Int) : Bool := (k != 1 && n != 0) || ((k != 2 && x != 0) || (k == 2 && !inR x 0 (v - 1)))
mutual
/-- May it be an expression, of so many variables? -/
def kgE (v : Int) : z0h → Bool
 | ⟨k, n, x, l⟩ => ((l.length : Int) == kN k) && (!gB v k n x && (gEs v l && inR n 0 2147483647))
def gEs (v : Int) : List z0h → Bool
 | [] => true
 | e :: r => kgE v e && gEs v r
end
theorem zy0 (v : Int) : ∀ l, gEs v l = l.all (kgE v)
 | [] => rfl
 | e :: r => by simp only [gEs, List.all_cons, zy0 v r]
theorem chE {v : Int} (h0 : 0 ≤ v) (h6 : v ≤ 6) : ∀ (N : Nat) (e : z0h), hE e ≤ N → N ≤ 400000000000 → ∀ n, Sn n (hE e) (z88 n e v) (kgE v e) := by
 have hv : IntKind.i64.wrap (v - 1) = v - 1 := w64 (by omega) (by omega)
 intro N
 induction N with
 | zero => intro e he; have := z01o e; omega
 | succ N ih =>
  intro e he hN n
  obtain ⟨k, m, x, l⟩ := e
  simp only [hE] at he ⊢
  cases n with
  | zero => exact .inr ⟨rfl, by omega⟩
  | succ n =>
   have hl := zxz l
   simp only [z88, z066, zb8, hv, Option.bind_eq_bind, Option.bind_some]
   by_cases hk : (l.length : Int) = kN k
   ·have e1 : ((l.length : Int) != kN k) = false := by simpa using hk
    have e2 : ((l.length : Int) == kN k) = true := by simpa using hk
    simp only [e1, Bool.false_eq_true, if_false, kgE, e2, Bool.true_and]
    have hj : ((if (k != 1) then (if (m != 0) then (some true) else (if (k != 2) then (if (x != 0) then (some true) else (if (k == 2) then (some (!inR x 0 (v - 1))) else (some false))) else (if (k == 2) then (some (!inR x 0 (v - 1))) else (some false))))
      else (if (k != 2) then (if (x != 0) then (some true) else (if (k == 2) then (some (!inR x 0 (v - 1))) else (some false))) else (if (k == 2) then (some (!inR x 0 (v - 1))) else (some false))) : Option Bool)) = some (gB v k m x) := by
     unfold gB
     by_cases h1 : k = 1
     ·subst h1
      by_cases hx : x = 0 <;> simp [hx]
     ·by_cases h2 : k = 2
      ·subst h2
       by_cases hm : m = 0 <;> simp [hm]
      ·by_cases hm : m = 0 <;> by_cases hx : x = 0 <;> simp [h1, h2, hm, hx]
    rw [hj]
    simp only [Option.bind_some]
    cases gB v k m x with
    | true => exact .inl rfl
    | false =>
     simp only [Bool.false_eq_true, if_false, Bool.not_false, Bool.true_and]
     have h := zml (O := Bool) (n := n) (H := hEs l) (body := zap (z88 n) ⟨k, m, x, l⟩ v) l (kgE v) false (by omega) (fun i y _ hx hm hlt hw => by
      unfold zap
      rw [if_pos (by simpa using hlt)]
      simp only [hx, Option.bind_eq_bind, Option.bind_some, hw]
      refine Sn.bind (f := _) ((ih y (by have := zsh hm; omega) (by omega) n).mono (zsh hm)) (.inl ?_)
      cases kgE v y <;> rfl) (by unfold zap; rw [if_neg (by simp)])
     rw [zy0]
     have h2 := (Sn.bind (f := Sum.elim (fun r => some r) (fun _ => some (inR m 0 2147483647))) (r := _) (t := (l.all (kgE v) && inR m 0 2147483647)) h (.inl (by cases l.all (kgE v) <;> rfl))).up
     exact h2.mono (by omega)
   ·have e1 : ((l.length : Int) != kN k) = true := by simpa using hk
    have e2 : ((l.length : Int) == kN k) = false := by simpa using hk
    simp only [e1, if_true, kgE, e2, Bool.false_and]
    exact .inl rfl
theorem zy1 {v : Int} (h0 : 0 ≤ v) (h6 : v ≤ 6) {e : z0h} (h : hE e ≤ 400000000000) : zei e v = some (kgE v e) := Sn.unf fun n => chE h0 h6 _ e (Nat.le_refl _) h n
/-! ### The reference -/
theorem reE (v : Int) : ∀ (N : Nat) (e : z34), kzE e ≤ N → N ≤ 400000000000 → ∀ n, Sn n (kzE e) (zab n e v) (kgE v (tE e)) := by
 intro N
 induction N with
 | zero => intro e he; have := zxv e; omega
 | succ N ih =>
  intro e he hN n
  obtain ⟨k, m, x, l⟩ := e
  simp only [kzE] at he ⊢
  cases n with
  | zero => exact .inr ⟨rfl, by omega⟩
  | succ n =>
   simp only [zab, tE, kgE]
   by_cases h1 : k = 1
   ·subst h1
    refine .inl ?_
    have hk : kN 1 = 0 := rfl
    cases l with
    | nil =>
     simp only [tEs, gEs, hk, gB, inR]
     by_cases a : m ≥ 0 <;> by_cases b : m ≤ 2147483647 <;> by_cases c : x = 0 <;> simp [a, b, c, show (0 ≤ m) = (m ≥ 0) from rfl]
    | cons y r =>
     have e1 : ((List.length (tEs (y :: r)) : Int) == kN 1) = false := by rw [zju, hk]; simp; omega
     have e2 : (((y :: r).length : Int) == 0) = false := by simp; omega
     rw [e1]
     simp only [e2, beq_self_eq_true, if_true, Bool.false_and, Option.bind_eq_bind]
     by_cases a : m ≥ 0 <;> by_cases b : m ≤ 2147483647 <;> by_cases c : x = 0 <;> simp [a, b, c]
   have n1 : (k == 1) = false := by simpa using h1
   simp only [n1, Bool.false_eq_true, if_false]
   by_cases h2 : k = 2
   ·subst h2
    refine .inl ?_
    have hk : kN 2 = 0 := rfl
    cases l with
    | nil =>
     simp only [tEs, gEs, hk, gB, inR]
     by_cases a : m = 0 <;> by_cases b : x ≥ 0 <;> by_cases c : x < v <;> simp [a, b, c, show (0 ≤ x) = (x ≥ 0) from rfl, show (x ≤ v - 1) = (x < v) from propext (by omega)]
    | cons y r =>
     have e1 : ((List.length (tEs (y :: r)) : Int) == kN 2) = false := by rw [zju, hk]; simp; omega
     have e2 : (((y :: r).length : Int) == 0) = false := by simp; omega
     rw [e1]
     simp only [e2, beq_self_eq_true, if_true, Bool.false_and, Option.bind_eq_bind]
     by_cases a : m = 0 <;> by_cases b : x ≥ 0 <;> by_cases c : x < v <;> simp [a, b, c]
   have n2 : (k == 2) = false := by simpa using h2
   simp only [n2, Bool.false_eq_true, if_false]
   have hgB : gB v k m x = !((m == 0) && (x == 0)) := by
    unfold gB
    rw [show (k != 1) = true from by simpa using h1, show (k != 2) = true from by simpa using h2, n2]
    simp only [bne]
    cases (m == 0) <;> cases (x == 0) <;> rfl
   have hnum : m = 0 → inR m 0 2147483647 = true := fun h => by subst h; rfl
   by_cases h3 : k = 3
   ·subst h3
    have hk : kN 3 = 1 := rfl
    rw [hgB]
    by_cases a : m = 0
    ·by_cases c : x = 0
     ·subst a; subst c
      match l with
      | [] => refine .inl ?_; simp [tEs, hk]
      | [y] =>
       simp only [zEs] at he ⊢
       have i0 : idx [y] 0 = some y := rfl
       have e3 : (([y].length : Int) == 1) = true := rfl
       simp only [beq_self_eq_true, if_true, e3, i0, Option.bind_eq_bind, Option.bind_some, tEs, gEs, hk]
       have := (ih y (by omega) (by omega) n).up
       refine (Sn.mono (h := kzE y + 1) ?_ (by omega))
       have e4 : kgE v (tE y) = (((List.length [tE y] : Int) == 1) && (!!(true && true) && ((kgE v (tE y) && true) && inR 0 0 2147483647))) := by
        cases kgE v (tE y) <;> rfl
       rw [← e4]
       rcases this with h | ⟨h, h'⟩
       ·exact .inl (by rw [h]; rfl)
       ·exact .inr ⟨by rw [h]; rfl, h'⟩
      | y :: z :: r =>
       refine .inl ?_
       have e1 : ((List.length (tEs (y :: z :: r)) : Int) == kN 3) = false := by rw [zju, hk]; simp; omega
       have e2 : (((y :: z :: r).length : Int) == 1) = false := by simp; omega
       rw [e1]
       simp only [beq_self_eq_true, if_true, e2, Bool.false_eq_true, if_false, Option.bind_eq_bind, Option.bind_some, Bool.false_and]
     ·refine .inl ?_; simp [a, c]
    ·refine .inl ?_; simp [a]
   have n3 : (k == 3) = false := by simpa using h3
   simp only [n3, Bool.false_eq_true, if_false]
   by_cases h4 : k ≥ 4 ∧ k ≤ 8
   ·have e4 : decide (k ≥ 4) = true := by simpa using h4.1
    have e8 : decide (k ≤ 8) = true := by simpa using h4.2
    have hk : kN k = 2 := by unfold kN inR; simp [h1, h2, h3, show 4 ≤ k from h4.1, h4.2]
    simp only [e4, e8, if_true, Option.bind_eq_bind, Option.bind_some]
    rw [hgB]
    by_cases a : m = 0
    ·by_cases c : x = 0
     ·subst a; subst c
      match l with
      | [] => refine .inl ?_; simp [tEs, hk]
      | [y] => refine .inl ?_; simp [tEs, hk]
      | [y, z] =>
       simp only [zEs] at he ⊢
       have i0 : idx [y, z] 0 = some y := rfl
       have i1 : idx [y, z] 1 = some z := rfl
       have e3 : (([y, z].length : Int) == 2) = true := rfl
       simp only [beq_self_eq_true, if_true, e3, i0, i1, Option.bind_eq_bind, Option.bind_some, tEs, gEs, hk]
       have hy := (ih y (by omega) (by omega) n).up
       have hz := (ih z (by omega) (by omega) n).up
       have e4 : (((List.length [tE y, tE z] : Int) == 2) && (!!(true && true) && ((kgE v (tE y) && (kgE v (tE z) && true)) && inR 0 0 2147483647))) = (kgE v (tE y) && kgE v (tE z)) := by
        cases kgE v (tE y) <;> cases kgE v (tE z) <;> rfl
       rw [e4]
       rcases hy with h | ⟨h, h'⟩
       ·rw [h]
        cases kgE v (tE y) with
        | false => exact .inl rfl
        | true =>
         rcases hz with h | ⟨h, h'⟩
         ·exact .inl (by simp [h])
         ·exact .inr ⟨by simp [h], by omega⟩
       ·exact .inr ⟨by simp [h], by omega⟩
      | y :: z :: w :: r =>
       refine .inl ?_
       have e1 : ((List.length (tEs (y :: z :: w :: r)) : Int) == kN k) = false := by rw [zju, hk]; simp; omega
       have e2 : (((y :: z :: w :: r).length : Int) == 2) = false := by simp; omega
       rw [e1]
       simp only [beq_self_eq_true, if_true, e2, Bool.false_eq_true, if_false, Option.bind_eq_bind, Option.bind_some, Bool.false_and]
     ·refine .inl ?_; simp [a, c]
    ·refine .inl ?_; simp [a]
   ·have hk : kN k = -1 := by
     unfold kN inR
     simp only [n1, n2, n3, Bool.or_self, Bool.false_eq_true, if_false]
     rw [if_neg (by simp; omega)]
    have e1 : ((List.length (tEs l) : Int) == kN k) = false := by rw [hk]; simp
    refine .inl ?_
    rw [e1]
    by_cases g : k ≥ 4
    ·have g8 : ¬ k ≤ 8 := fun h => h4 ⟨g, h⟩
     simp [g, g8]
    ·simp [g]
theorem zsi (v : Int) {e : z34} (h : kzE e ≤ 400000000000) : zi8 e v = some (kgE v (tE e)) := Sn.unf fun n => reE v _ e (Nat.le_refl _) h n
end Go.Proofs.YtgmbfjcidiedfaaGreatDoor.Abs.Ck
/- Conditions, what isn't there, ends, tags: the program's answers and the reference's. -/
namespace Go.Proofs.YtgmbfjcidiedfaaGreatDoor.Abs.Ck
open Go Go.RowKit Wri
set_option linter.unusedVariables false
set_option linter.unusedSimpArgs false
/-! Fields, as rules that simp takes for equations. -/
theorem z03h (k x ch t e c b el ar) : (z09.mk k x ch t e c b el ar).Kind = k := id rfl
theorem z068 (k x ch t e c b el ar) : (z09.mk k x ch t e c b el ar).Var = x := id rfl
theorem z03i (k x ch t e c b el ar) : (z09.mk k x ch t e c b el ar).Chan = ch := id rfl
theorem z069 (k x ch t e c b el ar) : (z09.mk k x ch t e c b el ar).Tag = t := id rfl
theorem cs_E (k x ch t e c b el ar) : (z09.mk k x ch t e c b el ar).E = e := id rfl
theorem cs_C (k x ch t e c b el ar) : (z09.mk k x ch t e c b el ar).C = c := id rfl
theorem z03j (k x ch t e c b el ar) : (z09.mk k x ch t e c b el ar).Body = b := id rfl
theorem z03k (k x ch t e c b el ar) : (z09.mk k x ch t e c b el ar).Else = el := id rfl
theorem z03l (k x ch t e c b el ar) : (z09.mk k x ch t e c b el ar).Arms = ar := id rfl
theorem z06a (t x b) : (z2i.mk t x b).Tag = t := id rfl
theorem z06b (t x b) : (z2i.mk t x b).Var = x := id rfl
theorem z03m (t x b) : (z2i.mk t x b).Body = b := id rfl
theorem z03n (k x ch t e c b el ar) : (z0v.mk k x ch t e c b el ar).Kind = k := id rfl
theorem z06c (k x ch t e c b el ar) : (z0v.mk k x ch t e c b el ar).Var = x := id rfl
theorem zy2 (k x ch t e c b el ar) : (z0v.mk k x ch t e c b el ar).Chan = ch := id rfl
theorem z06d (k x ch t e c b el ar) : (z0v.mk k x ch t e c b el ar).Tag = t := id rfl
theorem rs_E (k x ch t e c b el ar) : (z0v.mk k x ch t e c b el ar).E = e := id rfl
theorem rs_C (k x ch t e c b el ar) : (z0v.mk k x ch t e c b el ar).C = c := id rfl
theorem z03o (k x ch t e c b el ar) : (z0v.mk k x ch t e c b el ar).Body = b := id rfl
theorem z03p (k x ch t e c b el ar) : (z0v.mk k x ch t e c b el ar).Else = el := id rfl
theorem zsj (k x ch t e c b el ar) : (z0v.mk k x ch t e c b el ar).Arms = ar := id rfl
theorem zb9 (b c : Bool) {_ : Decidable (b = true)} : (if b = true then some c else some false : Option Bool) = some (b && c) := by cases b <;> simp
theorem zf8 (b c : Bool) {_ : Decidable (b = true)} : (if b = true then some true else some c : Option Bool) = some (b || c) := by cases b <;> simp
theorem obs {α β : Type} (x : α) (f : α → Option β) : (some x >>= f) = f x := rfl
theorem Sn.iteF {n h : Nat} {b c : Bool} {X : Option Bool} {_ : Decidable (b = true)} (hx : b = true → Sn n h X c) : Sn n h (if b = true then X else some false) (b && c) := by
 cases b with
 | true => rw [if_pos rfl, Bool.true_and]; exact hx rfl
 | false => exact .inl (by simp)
theorem Sn.ret {α : Type} {n h : Nat} {X : Option α} {r : α} (hx : Sn n h X r) : Sn n h (X >>= fun v => some v) r := by
 rcases hx with h | ⟨h, h'⟩
 ·exact .inl (by rw [h]; rfl)
 ·exact .inr ⟨by rw [h]; rfl, h'⟩
def noE (e : z34) : Bool := e.Kind == 0 && (e.Num == 0 && (e.Var == 0 && ((e.Kids.length : Int) == 0)))
theorem tE_f (e : z34) : (tE e).Kind = e.Kind ∧ (tE e).Num = e.Num ∧ (tE e).Var = e.Var ∧ (tE e).Kids.length = e.Kids.length := by
 obtain ⟨k, n, v, l⟩ := e
 simp only [tE, true_and]
 rw [zju]; simp
theorem no_r (e : z34) : zhk e = some (noE e) := by
 unfold zhk noE
 simp only [zb9]
theorem z01p (e : z34) : zcw (tE e) = some (noE e) := by
 obtain ⟨h1, h2, h3, h4⟩ := tE_f e
 unfold zcw noE
 simp only [zb9, h1, h2, h3, h4]
def noC (c : z8d) : Bool := c.Op == 0 && (noE c.L && noE c.R)
theorem z006 (c : z8d) : zbz c = some (noC c) := by
 unfold zbz noC
 simp only [no_r, Option.bind_eq_bind, Option.bind_some, zb9]
theorem z007 (c : z8d) : zdl (tC c) = some (noC c) := by
 unfold zdl noC
 simp only [tC, z01p, Option.bind_eq_bind, Option.bind_some, zb9]
def kgC (v : Int) (c : z8d) : Bool := inR c.Op 1 6 && (kgE v (tE c.L) && kgE v (tE c.R))
theorem z03q (v : Int) {c : z8d} (h : kzC c ≤ 400000000000) : zgo c v = some (kgC v c) := by
 unfold kzC at h
 unfold zgo kgC inR
 rw [zsi v (e := c.L) (by omega), zsi v (e := c.R) (by omega)]
 simp only [Option.bind_eq_bind, Option.bind_some, zb9, Bool.and_assoc, ge_iff_le]
theorem z06e {v : Int} (h0 : 0 ≤ v) (h6 : v ≤ 6) {c : z8d} (h : kzC c ≤ 400000000000) : zcx (tC c) v = some (kgC v c) := by
 unfold kzC at h
 unfold zcx kgC
 rw [tC, zy1 h0 h6 (by rw [hE_t]; omega), zy1 h0 h6 (by rw [hE_t]; omega)]
 simp only [zb8, Option.bind_eq_bind, Option.bind_some, zb9]
/-! ### Ends, tags -/
def gEnd (cs : List z4k) (f : z4k → Int) (p i : Int) : Bool := match idx cs i with | some x => f x == p | none => false
def gTag (cs : List z4k) (i t : Int) : Bool := match idx cs i with | some x => inR t 0 (x.Tags - 1) | none => false
theorem zic {α : Type} {l : List α} {i : Int} : idx l i = none ↔ ¬ (0 ≤ i ∧ i < (l.length : Int)) := by
 unfold idx
 by_cases h : 0 ≤ i
 ·rw [if_pos h, List.getElem?_eq_none_iff]
  omega
 ·rw [if_neg h]; simp [h]
theorem zid {α β : Type} (f : α → β) (l : List α) (i : Int) : idx (l.map f) i = (idx l i).map f := by
 unfold idx
 split
 ·rw [List.getElem?_map]
 ·rfl
theorem z03r {n : Nat} (h : n ≤ 4611686018427387904) (i : Int) : inR i 0 (IntKind.i64.wrap ((n : Int) - 1)) = (decide (0 ≤ i) && decide (i < (n : Int))) := by
 rw [w64 (by omega) (by omega)]
 unfold inR
 congr 1
 exact decide_eq_decide.2 (by omega)
/-- What the looker sees. -/
def lk (P : z2k) (p v : Int) : z1q := ⟨tP P, p, v⟩
theorem z01q {P : z2k} (h : P.Chans.length ≤ 4000000000) (f : z4k → Int) (p i : Int) :
  (if inR i 0 (IntKind.i64.wrap (((tP P).Chans.length : Int) - 1)) = true then ((idx (tP P).Chans i) >>= fun v2 => some ((match v2 with | ⟨k, s, a, b, t, r⟩ => f ⟨k, s, a, b, t, r⟩) == p)) else some false : Option Bool) = some (gEnd P.Chans f p i) := by
 have hl : (tP P).Chans.length = P.Chans.length := by simp [tP]
 rw [hl, z03r (by omega)]
 unfold gEnd
 cases hx : idx P.Chans i with
 | none =>
  have := zic.1 hx
  rw [if_neg (by simpa using this)]
 | some x =>
  have : 0 ≤ i ∧ i < (P.Chans.length : Int) := Decidable.byContradiction fun hn => by rw [zic.2 hn] at hx; cases hx
  rw [if_pos (by simpa using this)]
  have : idx (tP P).Chans i = some (tCh x) := by show idx (P.Chans.map tCh) i = _; rw [zid, hx]; rfl
  rw [this]
  rfl
theorem z06f {P : z2k} (h : P.Chans.length ≤ 4000000000) (p v i : Int) : z5t (lk P p v) i = some (gEnd P.Chans z4k.From p i) := by
 rw [← z01q h]
 unfold z5t zeh
 simp only [zb8, Option.bind_eq_bind, Option.bind_some]
 rfl
theorem to_c {P : z2k} (h : P.Chans.length ≤ 4000000000) (p v i : Int) : z64 (lk P p v) i = some (gEnd P.Chans z4k.To p i) := by
 rw [← z01q h]
 unfold z64 zkc
 simp only [zb8, Option.bind_eq_bind, Option.bind_some]
 rfl
theorem zy3 {cs : List z4k} {f : z4k → Int} {p i : Int} (h : gEnd cs f p i = true) : ∃ x, idx cs i = some x ∧ x ∈ cs ∧ f x = p := by
 unfold gEnd at h
 cases hx : idx cs i with
 | none => rw [hx] at h; cases h
 | some x =>
  rw [hx] at h
  refine ⟨x, rfl, ?_, by simpa using h⟩
  unfold idx at hx
  split at hx
  ·exact List.mem_of_getElem? hx
  ·cases hx
theorem z06g {P : z2k} {x : z4k} {i : Int} (hx : idx P.Chans i = some x) (h0 : 1 ≤ x.Tags) (h4 : x.Tags ≤ 4) (p v t : Int) : z8i (lk P p v) i t = some (inR t 0 (x.Tags - 1)) := by
 unfold z8i
 have : idx (lk P p v).f_p.Chans i = some (tCh x) := by show idx (P.Chans.map tCh) i = _; rw [zid, hx]; rfl
 rw [this]
 simp only [zb8, Option.bind_eq_bind, Option.bind_some]
 show some (inR t 0 (IntKind.i64.wrap (x.Tags - 1))) = _
 rw [w64 (by omega) (by omega)]
end Go.Proofs.YtgmbfjcidiedfaaGreatDoor.Abs.Ck
/- What may be a statement. -/
namespace Go.Proofs.YtgmbfjcidiedfaaGreatDoor.Abs.Ck
open Go Go.RowKit Wri
set_option linter.unusedVariables false
set_option linter.unusedSimpArgs false
def n0 {α : Type} (l : List α) : Bool := (l.length : Int) == 0
mutual
def kgS (cs : List z4k) (p v : Int) : z0v → Bool
 | .mk k x ch t e c b l a =>
  if k == 1 then noC c && (n0 b && (n0 l && (n0 a && ((ch == 0 && t == 0) && (inR x 0 (v - 1) && kgE v (tE e))))))
  else if k == 7 then noE e && (noC c && (n0 b && (n0 l && (n0 a && ((ch == 0 && t == 0) && inR x 0 (v - 1))))))
  else if k == 6 then noE e && (n0 b && (n0 l && (n0 a && ((ch == 0 && t == 0) && (x == 0 && kgC v c)))))
  else if k == 3 then noE e && (n0 l && (n0 a && ((ch == 0 && t == 0) && (x == 0 && (kgC v c && kgL cs p v b)))))
  else if k == 2 then noE e && (n0 a && ((ch == 0 && t == 0) && (x == 0 && (kgC v c && (kgL cs p v b && kgL cs p v l)))))
  else if k == 4 then noC c && (n0 b && (n0 l && (n0 a && (x == 0 && (gEnd cs z4k.From p ch && (gTag cs ch t && kgE v (tE e)))))))
  else if k == 5 then noE e && (noC c && (n0 b && (n0 l && (x == 0 && (t == 0 && (gEnd cs z4k.To p ch && (kgA cs p v ch (fun _ => false) a && decide ((a.length : Int) > 0))))))))
  else false
def kgL (cs : List z4k) (p v : Int) : List z0v → Bool
 | [] => true
 | s :: r => kgS cs p v s && kgL cs p v r
def kgA (cs : List z4k) (p v ch : Int) (had : Int → Bool) : List z5w → Bool
 | [] => true
 | .mk t x b :: r => (gTag cs ch t && (!had t && (inR x 0 (v - 1) && kgL cs p v b))) && kgA cs p v ch (fun y => y == t || had y) r
end
theorem zsk (cs : List z4k) (p v : Int) : ∀ l, kgL cs p v l = l.all (kgS cs p v)
 | [] => rfl
 | e :: r => by simp only [kgL, List.all_cons, zsk cs p v r]
def kokA (cs : List z4k) (p v ch : Int) (had : Int → Bool) (x : z5w) : Bool := gTag cs ch x.Tag && (!had x.Tag && (inR x.Var 0 (v - 1) && kgL cs p v x.Body))
theorem z03s (cs : List z4k) (p v ch : Int) (had : Int → Bool) (x : z5w) (r : List z5w) : kgA cs p v ch had (x :: r) = (kokA cs p v ch had x && kgA cs p v ch (fun y => y == x.Tag || had y) r) := by
 cases x; simp only [kgA, kokA, z5w.Tag, z5w.Var, z5w.Body]
/-! ### The tags that were had -/
def Rh (had : Int → Bool) (b0 b1 b2 b3 : Bool) : Prop := ∀ x : Int, 0 ≤ x → x < 4 → had x = arr false [b0, b1, b2, b3] x.toNat
theorem Rh0 : Rh (fun _ => false) false false false false := fun x h0 h4 => by
 have : x = 0 ∨ x = 1 ∨ x = 2 ∨ x = 3 := by omega
 rcases this with rfl | rfl | rfl | rfl <;> rfl
theorem z085 {had : Int → Bool} {b0 b1 b2 b3 : Bool} (h : Rh had b0 b1 b2 b3) {t : Int} (h0 : 0 ≤ t) (h4 : t < 4) :
  Rh (fun y => y == t || had y) (upd (arr false [b0, b1, b2, b3]) t.toNat true 0) (upd (arr false [b0, b1, b2, b3]) t.toNat true 1) (upd (arr false [b0, b1, b2, b3]) t.toNat true 2) (upd (arr false [b0, b1, b2, b3]) t.toNat true 3) := fun x g0 g4 => by
 have hx := h x g0 g4
 have e1 : x = 0 ∨ x = 1 ∨ x = 2 ∨ x = 3 := by omega
 have e2 : t = 0 ∨ t = 1 ∨ t = 2 ∨ t = 3 := by omega
 simp only [hx]
 rcases e1 with rfl | rfl | rfl | rfl <;> rcases e2 with rfl | rfl | rfl | rfl <;> rfl
theorem zy4 {body : Int × Bool × Bool × Bool × Bool → Option (Sum (Int × Bool × Bool × Bool × Bool) (Sum Bool Unit))} {n H : Nat} (cs : List z4k) (p v ch : Int) (len : Nat) (a : List z5w) (hl : a.length = len) (hlen : len ≤ 400000000000)
  (h4 : ∀ (had : Int → Bool) x, kokA cs p v ch had x = true → 0 ≤ x.Tag ∧ x.Tag < 4)
  (hs : ∀ (i : Nat) x had b0 b1 b2 b3, Rh had b0 b1 b2 b3 → a[i]? = some x → x ∈ a → i < len → IntKind.i64.wrap ((i : Int) + 1) = ((i + 1 : Nat) : Int) →
   Sn n H (body ((i : Int), b0, b1, b2, b3)) (if kokA cs p v ch had x then .inl (((i + 1 : Nat) : Int), upd (arr false [b0, b1, b2, b3]) x.Tag.toNat true 0, upd (arr false [b0, b1, b2, b3]) x.Tag.toNat true 1, upd (arr false [b0, b1, b2, b3]) x.Tag.toNat true 2, upd (arr false [b0, b1, b2, b3]) x.Tag.toNat true 3) else .inr (.inl false)))
  (he : ∀ b, body ((len : Int), b) = some (.inr (.inr ()))) : ∀ (m : List z5w) (i : Nat) had b0 b1 b2 b3, Rh had b0 b1 b2 b3 → a.drop i = m → i ≤ a.length → Sn n H (iter body ((i : Int), b0, b1, b2, b3)) (if kgA cs p v ch had m then .inr () else .inl false) := by
 intro m
 induction m with
 | nil =>
  intro i had b0 b1 b2 b3 hR hd hi
  have : i = len := by have := List.drop_eq_nil_iff.1 hd; omega
  subst this
  exact .inl (by rw [z56 (he _)]; simp [kgA])
 | cons x m ih =>
  intro i had b0 b1 b2 b3 hR hd hi
  have hlt : i < a.length := by
   refine Nat.lt_of_not_le fun h => ?_
   rw [List.drop_of_length_le h] at hd; cases hd
  rw [List.drop_eq_getElem_cons hlt] at hd
  injection hd with h1 h2
  have h3 := hs i x had b0 b1 b2 b3 hR (by rw [← h1]; exact List.getElem?_eq_getElem hlt) (by rw [← h1]; exact List.getElem_mem hlt) (by omega) (zxt (by omega))
  rw [zc9, z03s]
  refine Sn.bind (f := _) h3 ?_
  cases hp : kokA cs p v ch had x with
  | true =>
   obtain ⟨q0, q4⟩ := h4 had x hp
   have h5 := ih (i + 1) _ _ _ _ _ (z085 hR q0 q4) h2 hlt
   simpa only [Bool.true_and, if_true] using h5
  | false =>
   simp only [Bool.false_and, Bool.false_eq_true, if_false]
   exact .inl rfl
theorem z01r {t : Int} (h0 : 0 ≤ t) (h4 : t < 4) : inA 4 t = some t.toNat := by unfold inA; rw [if_pos ⟨h0, h4⟩]
/-- What a system's channels must be, that statements may be looked at. -/
def okCs (P : z2k) : Prop := P.Chans.length ≤ 4 ∧ ∀ c ∈ P.Chans, 1 ≤ c.Tags ∧ c.Tags ≤ 4
theorem z06h {P : z2k} (hP : okCs P) {p v ch : Int} {had : Int → Bool} {x : z5w} (h : kokA P.Chans p v ch had x = true) : 0 ≤ x.Tag ∧ x.Tag < 4 := by
 unfold kokA gTag at h
 cases hx : idx P.Chans ch with
 | none => rw [hx] at h; simp at h
 | some c =>
  rw [hx] at h
  have hm : c ∈ P.Chans := by
   unfold idx at hx
   split at hx
   ·exact List.mem_of_getElem? hx
   ·cases hx
  have := hP.2 c hm
  simp only [Bool.and_eq_true, inR, decide_eq_true_eq] at h
  omega
theorem zpa {P : z2k} {ch : Int} {c : z4k} (h : idx P.Chans ch = some c) (t : Int) : gTag P.Chans ch t = inR t 0 (c.Tags - 1) := by unfold gTag; rw [h]
/-- The looker's statements. -/
theorem z06i {P : z2k} (hP : okCs P) {p v : Int} (v0 : 0 ≤ v) (v6 : v ≤ 6) : ∀ (N : Nat) (l : List z0v), zL l ≤ N → N ≤ 400000000000 → ∀ n, Sn n (zL l) (z1p n (lk P p v) (tL l)) (kgL P.Chans p v l) := by
 have hwv : IntKind.i64.wrap (v - 1) = v - 1 := w64 (by omega) (by omega)
 have hcl : P.Chans.length ≤ 4000000000 := by have := hP.1; omega
 intro N
 induction N with
 | zero => intro l hl; have := ziv l; omega
 | succ N ih =>
  intro l hl hN n
  cases n with
  | zero => exact .inr ⟨rfl, by have := ziv l; omega⟩
  | succ n =>
   have hlen := zu2 l
   have hp := ziv l
   have hS : ∀ s ∈ l, Sn n (zL l - 1) (z39 n (lk P p v) (tS s)) (kgS P.Chans p v s) := by
    intro s hs
    have hz := zu0 hs
    obtain ⟨k, x, ch, t, e, c, b, el, ar⟩ := s
    simp only [zS] at hz
    cases n with
    | zero => exact .inr ⟨rfl, by omega⟩
    | succ n =>
     have hb : ∀ n, Sn n (zL l - 1 - 1) (z1p n (lk P p v) (tL b)) (kgL P.Chans p v b) := fun n => (ih b (by omega) (by omega) n).mono (by omega)
     have hel : ∀ n, Sn n (zL l - 1 - 1) (z1p n (lk P p v) (tL el)) (kgL P.Chans p v el) := fun n => (ih el (by omega) (by omega) n).mono (by omega)
     have el1 : ((tL b).length : Int) = (b.length : Int) := by rw [zno]; simp
     have el2 : ((tL el).length : Int) = (el.length : Int) := by rw [zno]; simp
     have el3 : ((tA ar).length : Int) = (ar.length : Int) := by rw [ztz]; simp
     have he := zy1 v0 v6 (e := tE e) (by rw [hE_t]; omega)
     have hc := z06e v0 v6 (c := c) (by omega)
     have hpp : zL l - 1 = (zL l - 1 - 1) + 1 := by omega
     rw [hpp]
     refine Sn.up ?_
     simp only [tS, z39, z03h, z068, z03i, z069, cs_E, cs_C, z03j, z03k, z03l, z01p, z007, obs, zb9, el1, el2, el3, zb8, show (lk P p v).f_vars = v from rfl, hwv, he, hc, z06f hcl, to_c hcl, kgS]
     by_cases h1 : (k == 1) = true
     ·simp only [h1, if_true]
      exact .inl rfl
     ·simp only [h1, Bool.false_eq_true, if_false]
      by_cases h1 : (k == 7) = true
      ·simp only [h1, if_true]
       exact .inl rfl
      ·simp only [h1, Bool.false_eq_true, if_false]
       by_cases h1 : (k == 6) = true
       ·simp only [h1, if_true]
        exact .inl rfl
       ·simp only [h1, Bool.false_eq_true, if_false]
        by_cases h1 : (k == 3) = true
        ·simp only [h1, if_true]
         refine Sn.ret (Sn.iteF fun _ => Sn.iteF fun _ => Sn.iteF fun _ => Sn.iteF fun _ => Sn.iteF fun _ => Sn.iteF fun _ => Sn.ret (hb n))
        ·simp only [h1, Bool.false_eq_true, if_false]
         by_cases h1 : (k == 2) = true
         ·simp only [h1, if_true]
          refine Sn.ret (Sn.iteF fun _ => Sn.iteF fun _ => Sn.iteF fun _ => Sn.iteF fun _ => Sn.iteF fun _ => Sn.bind (f := _) (hb n) (Sn.iteF fun _ => Sn.ret (hel n)))
         ·simp only [h1, Bool.false_eq_true, if_false]
          by_cases h1 : (k == 4) = true
          ·simp only [h1, if_true]
           refine Sn.ret (Sn.iteF fun _ => Sn.iteF fun _ => Sn.iteF fun _ => Sn.iteF fun _ => Sn.iteF fun _ => Sn.iteF fun hg => ?_)
           obtain ⟨y, hy, hm, _⟩ := zy3 hg
           have := hP.2 y hm
           rw [z06g hy this.1 this.2, zpa hy]
           exact .inl rfl
          ·simp only [h1, Bool.false_eq_true, if_false]
           by_cases h1 : (k == 5) = true
           ·simp only [h1, if_true]
            refine Sn.ret (Sn.iteF fun _ => Sn.iteF fun _ => Sn.iteF fun _ => Sn.iteF fun _ => Sn.iteF fun _ => Sn.iteF fun _ => Sn.iteF fun hg => Sn.ret ?_)
            obtain ⟨y, hy, hm, _⟩ := zy3 hg
            have hy4 := hP.2 y hm
            cases n with
            | zero => exact .inr ⟨rfl, by omega⟩
            | succ n =>
             have hpp : zL l - 1 - 1 = (zL l - 1 - 1 - 1) + 1 := by omega
             rw [hpp]
             refine Sn.up ?_
             simp only [z3a]
             have hlo := zy4 (n := n) (H := zL l - 1 - 1 - 1) (body := z6x (z1p n) (z39 n) (z3a n) (lk P p v) ch (tA ar)) P.Chans p v ch ar.length ar rfl (by have := zu3 ar; omega) (fun had x h => z06h hP h) (fun i a had b0 b1 b2 b3 hR ha hma hlt hw => by
              have hz2 := zu1 hma
              have hi : idx (tA ar) (i : Int) = some (tArm a) := by
               rw [ztz, zid, zp0 ha]; rfl
              unfold z6x
              simp only [el3]
              rw [if_pos (by simpa using hlt)]
              simp only [hi, Option.bind_eq_bind, Option.bind_some, hw, tArm, z06a, z06b, z03m, z06g hy hy4.1 hy4.2, zb8, show (lk P p v).f_vars = v from rfl, hwv, kokA, zpa hy]
              cases hT : inR a.Tag 0 (y.Tags - 1) with
              | false => exact .inl rfl
              | true =>
               have ⟨t0, t4⟩ : 0 ≤ a.Tag ∧ a.Tag < 4 := by
                simp only [inR, Bool.and_eq_true, decide_eq_true_eq] at hT; omega
               simp only [z01r t0 t4, Bool.not_true, Bool.false_eq_true, if_false, Option.bind_some, ← hR _ t0 t4, Bool.true_and]
               cases had a.Tag with
               | true => exact .inl rfl
               | false =>
                simp only [Bool.false_eq_true, if_false, Bool.not_false, Bool.true_and]
                cases inR a.Var 0 (v - 1) with
                | false => exact .inl rfl
                | true =>
                 simp only [Bool.not_true, Bool.false_eq_true, if_false, Bool.true_and]
                 refine Sn.bind (f := _) (r := !(kgL P.Chans p v a.Body)) (Sn.bind (f := _) ((ih a.Body (by omega) (by omega) n).mono (by omega)) (.inl rfl)) ?_
                 cases kgL P.Chans p v a.Body <;> exact .inl rfl)
              (fun b => by unfold z6x; simp only [el3]; rw [if_neg (by simp)]) ar 0 _ _ _ _ _ Rh0 rfl (by omega)
             refine Sn.bind (f := _) hlo (.inl ?_)
             cases kgA P.Chans p v ch (fun _ => false) ar <;> simp [el3]
           ·simp only [h1, Bool.false_eq_true, if_false]
            exact .inl rfl
   simp only [z1p]
   have h := zml (O := Bool) (n := n) (H := zL l - 1) (body := z6i (z1p n) (z39 n) (z3a n) (lk P p v) (tL l)) l (kgS P.Chans p v) false (by omega) (fun i y hy hx hm hlt hw => by
    have hi : idx (tL l) (i : Int) = some (tS y) := by rw [zno, zid, hx]; rfl
    unfold z6i
    rw [if_pos (by rw [zno]; simpa using hlt)]
    simp only [hi, Option.bind_eq_bind, Option.bind_some, hw]
    refine Sn.bind (f := _) (hS y hm) (.inl ?_)
    cases kgS P.Chans p v y <;> rfl) (by unfold z6i; rw [if_neg (by rw [zno]; simp)])
   rw [zsk]
   have h2 := (Sn.bind (f := Sum.elim (fun r => some r) (fun _ => some true)) (r := _) (t := l.all (kgS P.Chans p v)) h (.inl (by cases l.all (kgS P.Chans p v) <;> rfl))).up
   exact h2.mono (by omega)
theorem z03t {P : z2k} (hP : okCs P) {p v : Int} (v0 : 0 ≤ v) (v6 : v ≤ 6) {l : List z0v} (h : zL l ≤ 400000000000) : zch (lk P p v) (tL l) = some (kgL P.Chans p v l) := Sn.unf fun n => z06i hP v0 v6 _ l (Nat.le_refl _) h n
end Go.Proofs.YtgmbfjcidiedfaaGreatDoor.Abs.Ck
/- What may be a statement: the reference's answer. -/
namespace Go.Proofs.YtgmbfjcidiedfaaGreatDoor.Abs.Ck
open Go Go.RowKit Wri
set_option linter.unusedVariables false
set_option linter.unusedSimpArgs false
theorem inRv (x v : Int) : (decide (x ≥ 0) && decide (x < v)) = inR x 0 (v - 1) := by
 unfold inR
 congr 1
 exact decide_eq_decide.2 (by omega)
theorem z01s {α : Type} (l : List α) : decide ((l.length : Int) > 0) = !n0 l := by
 unfold n0
 cases l with
 | nil => rfl
 | cons x r => simp; omega
theorem z01t {α : Type} (l : List α) : ((l.length : Int) == 0) = n0 l := rfl
theorem Sn.eq {α : Type} {n h : Nat} {X : Option α} {r r' : α} (hx : Sn n h X r) (e : r = r') : Sn n h X r' := e ▸ hx
theorem Sn.or {n h : Nat} {b g : Bool} {X : Option Bool} {_ : Decidable (b = true)} (hx : b = false → Sn n h X g) : Sn n h (if b = true then some false else X) (!b && g) := by
 cases b with
 | true => exact .inl (by simp)
 | false => rw [if_neg (by simp)]; exact hx rfl
theorem z086 {P : z2k} (hP : okCs P) {p : Int} {q : ze5} (hq : idx P.Procs p = some q) : ∀ (N : Nat) (l : List z0v), zL l ≤ N → N ≤ 400000000000 → ∀ n, Sn n (zL l) (z5e n l P p) (kgL P.Chans p q.Vars l) := by
  have hcl : P.Chans.length ≤ 4000000000 := by have := hP.1; omega
  intro N
  induction N with
  | zero => intro l hl; have := ziv l; omega
  | succ N ih =>
    intro l hl hN n
    cases n with
    | zero => exact .inr ⟨rfl, by have := ziv l; omega⟩
    | succ n =>
      have hlen := zu2 l
      have hp := ziv l
      have hS : ∀ s ∈ l, Sn n (zL l - 1) (z8o n s P p) (kgS P.Chans p q.Vars s) := by
        intro s hs
        have hz := zu0 hs
        obtain ⟨k, x, ch, t, e, c, b, el, ar⟩ := s
        simp only [zS] at hz
        cases n with
        | zero => exact .inr ⟨rfl, by omega⟩
        | succ n =>
          have hb : ∀ n, Sn n (zL l - 1 - 1) (z5e n b P p) (kgL P.Chans p q.Vars b) := fun n => (ih b (by omega) (by omega) n).mono (by omega)
          have hel : ∀ n, Sn n (zL l - 1 - 1) (z5e n el P p) (kgL P.Chans p q.Vars el) := fun n => (ih el (by omega) (by omega) n).mono (by omega)
          have he := zsi q.Vars (e := e) (by omega)
          have hc := z03q q.Vars (c := c) (by omega)
          have hpp : zL l - 1 = (zL l - 1 - 1) + 1 := by omega
          rw [hpp]
          refine Sn.up ?_
          simp only [z8o, z03n, z06c, zy2, z06d, rs_E, rs_C, z03o, z03p, zsj, hq, no_r, z006, obs, zb9, zf8, he, hc, inRv, z01t, z01s, kgS]
          by_cases h1 : (k == 1) = true
          · simp only [h1, if_true]
            exact .inl (congrArg some (by ac_rfl))
          · simp only [h1, Bool.false_eq_true, if_false]
            by_cases h2 : (k == 2) = true
            · have h7 : (k == 7) = false := by have : k = 2 := by simpa using h2
                                               subst this; rfl
              have h6 : (k == 6) = false := by have : k = 2 := by simpa using h2
                                               subst this; rfl
              have h3 : (k == 3) = false := by have : k = 2 := by simpa using h2
                                               subst this; rfl
              simp only [h2, h7, h6, h3, if_true, Bool.false_eq_true, if_false]
              refine Sn.eq (Sn.ret (Sn.iteF fun _ => Sn.iteF fun _ => Sn.iteF fun _ => Sn.iteF fun _ => Sn.iteF fun _ => Sn.iteF fun _ => Sn.bind (f := _) (hb n) (Sn.iteF fun _ => Sn.ret (hel n)))) (by ac_rfl)
            · simp only [h2, Bool.false_eq_true, if_false]
              by_cases h3 : (k == 3) = true
              · have h7 : (k == 7) = false := by have : k = 3 := by simpa using h3
                                                 subst this; rfl
                have h6 : (k == 6) = false := by have : k = 3 := by simpa using h3
                                                 subst this; rfl
                simp only [h3, h7, h6, if_true, Bool.false_eq_true, if_false]
                refine Sn.eq (Sn.ret (Sn.iteF fun _ => Sn.iteF fun _ => Sn.iteF fun _ => Sn.iteF fun _ => Sn.iteF fun _ => Sn.iteF fun _ => Sn.iteF fun _ => Sn.bind (f := _) (hb n) (Sn.iteF fun _ => Sn.ret (hel n)))) ?_
                cases el with
                | nil =>
                  simp only [kgL, Bool.and_true]
                  ac_rfl
                | cons s r =>
                  have : n0 (s :: r) = false := by unfold n0; simp; omega
                  simp only [this, Bool.false_and, Bool.and_false]
              · simp only [h3, Bool.false_eq_true, if_false]
                by_cases h4 : (k == 4) = true
                · have h7 : (k == 7) = false := by have : k = 4 := by simpa using h4
                                                   subst this; rfl
                  have h6 : (k == 6) = false := by have : k = 4 := by simpa using h4
                                                   subst this; rfl
                  simp only [h4, h7, h6, if_true, Bool.false_eq_true, if_false]
                  cases hx : idx P.Chans ch with
                  | none =>
                    have hj : inR ch 0 ((P.Chans.length : Int) - 1) = false := by
                      have := zic.1 hx
                      rw [← inRv]; simp; omega
                    refine Sn.eq (r := false) (.inl ?_) ?_
                    · simp only [hj, Bool.false_eq_true, if_false, obs]
                      split <;> rfl
                    · unfold gEnd
                      rw [hx]
                      simp
                  | some y =>
                    simp only [obs, zb9]
                    refine .inl (congrArg some ?_)
                    have hj : inR ch 0 ((P.Chans.length : Int) - 1) = true := by
                      have : 0 ≤ ch ∧ ch < (P.Chans.length : Int) := Decidable.byContradiction fun hn => by rw [zic.2 hn] at hx; cases hx
                      rw [← inRv]; simp; omega
                    rw [zpa hx, hj, ← inRv t]
                    unfold gEnd
                    rw [hx]
                    simp only [Bool.true_and]
                    ac_rfl
                · simp only [h4, Bool.false_eq_true, if_false]
                  by_cases h5 : (k == 5) = true
                  · have h7 : (k == 7) = false := by have : k = 5 := by simpa using h5
                                                     subst this; rfl
                    have h6 : (k == 6) = false := by have : k = 5 := by simpa using h5
                                                     subst this; rfl
                    simp only [h5, h7, h6, if_true, Bool.false_eq_true, if_false]
                    cases hx : idx P.Chans ch with
                    | none =>
                      have hj : inR ch 0 ((P.Chans.length : Int) - 1) = false := by
                        have := zic.1 hx
                        rw [← inRv]; simp; omega
                      refine Sn.eq (r := false) (.inl ?_) ?_
                      · simp only [hj, Bool.not_false, if_true, obs]
                      · unfold gEnd
                        rw [hx]
                        simp
                    | some y =>
                      have hj : inR ch 0 ((P.Chans.length : Int) - 1) = true := by
                        have : 0 ≤ ch ∧ ch < (P.Chans.length : Int) := Decidable.byContradiction fun hn => by rw [zic.2 hn] at hx; cases hx
                        rw [← inRv]; simp; omega
                      have hm : y ∈ P.Chans := by
                        have hx2 := hx
                        unfold idx at hx2
                        split at hx2
                        · exact List.mem_of_getElem? hx2
                        · cases hx2
                      have hy4 := hP.2 y hm
                      simp only [hj, Bool.not_true, Bool.false_eq_true, if_false, obs, zf8]
                      have hlo := zy4 (n := n) (H := zL l - 1 - 1) (body := zd2 (z5e n) (z8o n) (.mk k x ch t e c b el ar) P p q) P.Chans p q.Vars ch ar.length ar rfl (by have := zu3 ar; omega) (fun had x h => z06h hP h) (fun i a had b0 b1 b2 b3 hR ha hma hlt hw => by
                        have hz2 := zu1 hma
                        unfold zd2
                        simp only [zsj, zy2]
                        rw [if_pos (by simpa using hlt)]
                        simp only [zp0 ha, hx, obs, hw, kokA, zpa hx]
                        by_cases hT0 : a.Tag < 0
                        · have : inR a.Tag 0 (y.Tags - 1) = false := by unfold inR; simp; omega
                          simp only [this, decide_eq_true hT0, if_true, obs, Bool.false_and, Bool.false_eq_true, if_false]
                          exact .inl rfl
                        · by_cases hT4 : a.Tag ≥ y.Tags
                          · have : inR a.Tag 0 (y.Tags - 1) = false := by unfold inR; simp; omega
                            simp only [this, decide_eq_false hT0, decide_eq_true hT4, if_true, obs, Bool.false_and, Bool.false_eq_true, if_false]
                            exact .inl rfl
                          · have : inR a.Tag 0 (y.Tags - 1) = true := by unfold inR; simp; omega
                            simp only [this, decide_eq_false hT0, decide_eq_false hT4, Bool.true_and, Bool.false_eq_true, if_false, z01r (show 0 ≤ a.Tag by omega) (show a.Tag < 4 by omega), obs, ← hR _ (show 0 ≤ a.Tag by omega) (show a.Tag < 4 by omega)]
                            cases had a.Tag with
                            | true => exact .inl rfl
                            | false =>
                              simp only [Bool.false_eq_true, if_false, Bool.not_false, Bool.true_and]
                              by_cases hV0 : a.Var < 0
                              · have : inR a.Var 0 (q.Vars - 1) = false := by unfold inR; simp; omega
                                simp only [this, decide_eq_true hV0, if_true, obs, Bool.false_and, Bool.false_eq_true, if_false]
                                exact .inl rfl
                              · by_cases hV4 : a.Var ≥ q.Vars
                                · have : inR a.Var 0 (q.Vars - 1) = false := by unfold inR; simp; omega
                                  simp only [this, decide_eq_false hV0, decide_eq_true hV4, if_true, obs, Bool.false_and, Bool.false_eq_true, if_false]
                                  exact .inl rfl
                                · have : inR a.Var 0 (q.Vars - 1) = true := by unfold inR; simp; omega
                                  simp only [this, decide_eq_false hV0, decide_eq_false hV4, Bool.true_and, Bool.false_eq_true, if_false]
                                  refine Sn.bind (f := _) (r := !(kgL P.Chans p q.Vars a.Body)) (Sn.bind (f := _) ((ih a.Body (by omega) (by omega) n).mono (by omega)) (.inl rfl)) ?_
                                  cases kgL P.Chans p q.Vars a.Body <;> exact .inl rfl)
                        (fun b => by unfold zd2; simp only [zsj]; rw [if_neg (by simp)]) ar 0 _ _ _ _ _ Rh0 rfl (by omega)
                      refine Sn.eq (Sn.or fun _ => Sn.bind (f := _) hlo (r := _) (t := kgA P.Chans p q.Vars ch (fun _ => false) ar) (.inl ?_)) ?_
                      · cases kgA P.Chans p q.Vars ch (fun _ => false) ar <;> rfl
                      · have hg : gEnd P.Chans z4k.To p ch = (y.To == p) := by unfold gEnd; rw [hx]
                        simp only [hg, Bool.not_or, Bool.not_not, bne]
                        ac_rfl
                  · simp only [h5, Bool.false_eq_true, if_false]
                    by_cases h6 : (k == 6) = true
                    · have h7 : (k == 7) = false := by have : k = 6 := by simpa using h6
                                                       subst this; rfl
                      simp only [h6, h7, if_true, Bool.false_eq_true, if_false]
                      exact .inl (congrArg some (by ac_rfl))
                    · simp only [h6, Bool.false_eq_true, if_false]
                      by_cases h7 : (k == 7) = true
                      · simp only [h7, if_true]
                        exact .inl (congrArg some (by ac_rfl))
                      · simp only [h7, Bool.false_eq_true, if_false]
                        exact .inl rfl
      simp only [z5e]
      have h := zml (O := Bool) (n := n) (H := zL l - 1) (body := zc1 (z5e n) (z8o n) l P p) l (kgS P.Chans p q.Vars) false (by omega) (fun i y hy hx hm hlt hw => by
        unfold zc1
        rw [if_pos (by simpa using hlt)]
        simp only [hx, Option.bind_eq_bind, Option.bind_some, hw]
        refine Sn.bind (f := _) (hS y hm) (.inl ?_)
        cases kgS P.Chans p q.Vars y <;> rfl) (by unfold zc1; rw [if_neg (by simp)])
      rw [zsk]
      have h2 := (Sn.bind (f := Sum.elim (fun r => some r) (fun _ => some true)) (r := _) (t := l.all (kgS P.Chans p q.Vars)) h (.inl (by cases l.all (kgS P.Chans p q.Vars) <;> rfl))).up
      exact h2.mono (by omega)
theorem z008 {P : z2k} (hP : okCs P) {p : Int} {q : ze5} (hq : idx P.Procs p = some q) {l : List z0v} (h : zL l ≤ 400000000000) : znj l P p = some (kgL P.Chans p q.Vars l) := Sn.unf fun n => z086 hP hq _ l (Nat.le_refl _) h n
end Go.Proofs.YtgmbfjcidiedfaaGreatDoor.Abs.Ck
/- What may be a channel, and a system. -/
namespace Go.Proofs.YtgmbfjcidiedfaaGreatDoor.Abs.Ck
open Go Go.RowKit Wri
set_option linter.unusedVariables false
set_option linter.unusedSimpArgs false
theorem iteY {α : Type} (b : Bool) (x y : α) {_ : Decidable (b = true)} {_ : Decidable ((!b) = true)} : (if b = true then some y else some x : Option α) = some (if (!b) = true then x else y) := by cases b <;> simp
def fo {β : Type} (g : Nat → Int → β → Option Int) : Nat → Int → List β → Option Int
 | _, acc, [] => some acc
 | i, acc, x :: m => match g i acc x with
  | some t => fo g (i + 1) t m
  | none => none
def so (r : Option Int) : Sum Bool Int := match r with
 | some t => .inr t
 | none => .inl false
theorem zpb {β : Type} {body : Int × Int → Option (Sum (Int × Int) (Sum Bool Int))} (l : List β) (g : Nat → Int → β → Option Int) (hlen : l.length ≤ 4611686018427387904)
  (hs : ∀ (i : Nat) (x : β) acc, l[i]? = some x → idx l (i : Int) = some x → x ∈ l → i < l.length → IntKind.i64.wrap ((i : Int) + 1) = ((i + 1 : Nat) : Int) → body (acc, (i : Int)) = some (match g i acc x with | some t => .inl (t, ((i + 1 : Nat) : Int)) | none => .inr (.inl false)))
  (he : ∀ acc, body (acc, (l.length : Int)) = some (.inr (.inr acc))) : ∀ (m : List β) (i : Nat) acc, l.drop i = m → i ≤ l.length → iter body (acc, (i : Int)) = some (so (fo g i acc m)) := by
 intro m
 induction m with
 | nil =>
  intro i acc hd hi
  have : i = l.length := by have := List.drop_eq_nil_iff.1 hd; omega
  subst this
  rw [z56 (he acc)]; rfl
 | cons x m ih =>
  intro i acc hd hi
  have hlt : i < l.length := by
   refine Nat.lt_of_not_le fun h => ?_
   rw [List.drop_of_length_le h] at hd; cases hd
  rw [List.drop_eq_getElem_cons hlt] at hd
  injection hd with h1 h2
  have h3 := hs i x acc (by rw [← h1]; exact List.getElem?_eq_getElem hlt) (by rw [zm6 hlt, h1]) (by rw [← h1]; exact List.getElem_mem hlt) hlt (zxt (by omega))
  rw [zc9, h3]
  simp only [fo]
  cases hp : g i acc x with
  | some t => exact ih (i + 1) t h2 hlt
  | none => rfl
/-- A move of a rule's row. -/
def gMv (L : Int) (row : Int) (i : Nat) (acc m : Int) : Option Int := if inR m (-1) (L - 1) then some (if m != -1 then max (max acc row) m else acc) else none
def gRow (L T : Int) (i : Nat) (acc : Int) (r : List Int) : Option Int := if (r.length : Int) == T then fo (gMv L (i : Int)) 0 acc r else none
def gTop (c : z4k) : Option Int := fo (gRow (c.Rule.length : Int) c.Tags) 0 0 c.Rule
def gRu (c : z4k) : Bool := match gTop c with
 | some t => n0 c.Rule || (t == (c.Rule.length : Int) - 1 && decide ((c.Rule.length : Int) ≤ 8))
 | none => false
def kgCh (n : Int) (c : z4k) : Bool := inR c.Kind 0 2 && (inR c.Size 1 16 && (inR c.Tags 1 4 && (inR c.From 0 (n - 1) && (inR c.To 0 (n - 1) && (c.From != c.To && gRu c)))))
def kokR (c : z4k) : Prop := c.Rule.length ≤ 4000000000 ∧ ∀ r ∈ c.Rule, r.length ≤ 4000000000
theorem z03u {c : z4k} (h : kokR c) : zew (tCh c) = some (gRu c) := by
 unfold zew
 have hw : IntKind.i64.wrap ((c.Rule.length : Int) - 1) = (c.Rule.length : Int) - 1 := w64 (by have := h.1; omega) (by have := h.1; omega)
 have hR : (tCh c).Rule = c.Rule := id rfl
 have hT : (tCh c).Tags = c.Tags := id rfl
 have hl := zpb (body := z9p (tCh c)) c.Rule (gRow (c.Rule.length : Int) c.Tags) (by have := h.1; omega) (fun i r acc hi hx hm hlt hwi => by
  unfold z9p
  simp only [hR, hT]
  rw [if_pos (by simpa using hlt)]
  simp only [hx, obs]
  unfold gRow
  by_cases hq : (r.length : Int) = c.Tags
  ·have e1 : ((r.length : Int) != c.Tags) = false := by simpa using hq
   have e2 : ((r.length : Int) == c.Tags) = true := by simpa using hq
   simp only [e1, e2, Bool.false_eq_true, if_false, if_true]
   have hin := zpb (body := z9o (tCh c) r (acc, (i : Int))) r (gMv (c.Rule.length : Int) (i : Int)) (by have := h.2 r hm; omega) (fun j m a hj hy hmm hjl hwj => by
    unfold z9o
    rw [if_pos (by simpa using hjl)]
    simp only [hy, obs, zb8, hR, hw, hwj]
    unfold gMv
    cases inR m (-1) ((c.Rule.length : Int) - 1) with
    | false => rfl
    | true =>
     simp only [Bool.not_true, Bool.false_eq_true, if_false, if_true]
     cases hb : (m != -1) <;> simp only [hb, Bool.false_eq_true, if_false, if_true] <;> rfl)
    (fun a => by unfold z9o; rw [if_neg (by simp)]) r 0 acc rfl (by omega)
   rw [show ((acc, (0 : Int)) : Int × Int) = (acc, ((0 : Nat) : Int)) from rfl, hin]
   simp only [obs, hwi]
   cases fo (gMv (c.Rule.length : Int) (i : Int)) 0 acc r <;> rfl
  ·have e1 : ((r.length : Int) != c.Tags) = true := by simpa using hq
   have e2 : ((r.length : Int) == c.Tags) = false := by simpa using hq
   simp only [e1, e2, Bool.false_eq_true, if_false, if_true])
  (fun a => by unfold z9p; rw [if_neg (by simp [hR])]) c.Rule 0 0 rfl (by omega)
 rw [show (((0 : Int), (0 : Int)) : Int × Int) = (0, ((0 : Nat) : Int)) from rfl, hl]
 simp only [obs, hR, hw, z01t]
 unfold gRu gTop
 cases fo (gRow (c.Rule.length : Int) c.Tags) 0 0 c.Rule with
 | none => rfl
 | some t =>
  simp only [so, Sum.elim_inr, zb9, zf8]
theorem zy5 {c : z4k} (h : kokR c) {n : Nat} (hn : n ≤ 4000000000) : zcg (tCh c) (n : Int) = some (kgCh (n : Int) c) := by
 have hw : IntKind.i64.wrap ((n : Int) - 1) = (n : Int) - 1 := w64 (by omega) (by omega)
 unfold zcg kgCh
 simp only [zb8, obs, hw, z03u h, zb9, show (tCh c).Kind = c.Kind from id rfl, show (tCh c).Size = c.Size from id rfl, show (tCh c).Tags = c.Tags from id rfl, show (tCh c).From = c.From from id rfl, show (tCh c).To = c.To from id rfl, Bool.and_assoc]
/-- The reference's loop over a rule. -/
theorem z03v {c : z4k} (h : kokR c) : iter (zac c) (0, 0) = some (so (gTop c)) := by
 exact zpb (body := zac c) c.Rule (gRow (c.Rule.length : Int) c.Tags) (by have := h.1; omega) (fun i r acc hi hx hm hlt hwi => by
  unfold zac
  rw [if_pos (by simpa using hlt)]
  simp only [hx, obs]
  unfold gRow
  by_cases hq : (r.length : Int) = c.Tags
  ·have e1 : ((r.length : Int) != c.Tags) = false := by simpa using hq
   have e2 : ((r.length : Int) == c.Tags) = true := by simpa using hq
   simp only [e1, e2, Bool.false_eq_true, if_false, if_true]
   have hin := zpb (body := zc2 c (acc, (i : Int))) r (gMv (c.Rule.length : Int) (i : Int)) (by have := h.2 r hm; omega) (fun j m a hj hy hmm hjl hwj => by
    unfold zc2
    rw [if_pos (by simp only [← hq]; simpa using hjl)]
    simp only [hx, hy, obs, hwj]
    unfold gMv
    by_cases h1 : m < -1
    ·have : inR m (-1) ((c.Rule.length : Int) - 1) = false := by unfold inR; simp; omega
     simp only [this, decide_eq_true h1, if_true, obs, Bool.false_eq_true, if_false]
     rfl
    ·by_cases h2 : m ≥ (c.Rule.length : Int)
     ·have : inR m (-1) ((c.Rule.length : Int) - 1) = false := by unfold inR; simp; omega
      simp only [this, decide_eq_false h1, decide_eq_true h2, if_true, obs, Bool.false_eq_true, if_false]
      rfl
     ·have : inR m (-1) ((c.Rule.length : Int) - 1) = true := by unfold inR; simp; omega
      simp only [this, decide_eq_false h1, decide_eq_false h2, if_true, obs, Bool.false_eq_true, if_false]
      by_cases h3 : m ≥ 0
      ·have : (m != -1) = true := by simp; omega
       simp only [this, decide_eq_true h3, if_true]
       rfl
      ·have : (m != -1) = false := by simp; omega
       simp only [this, decide_eq_false h3, Bool.false_eq_true, if_false]
       rfl)
    (fun a => by unfold zc2; rw [if_neg (by simp [← hq])]) r 0 acc rfl (by omega)
   rw [show ((acc, (0 : Int)) : Int × Int) = (acc, ((0 : Nat) : Int)) from rfl, hin]
   simp only [obs, hwi]
   cases fo (gMv (c.Rule.length : Int) (i : Int)) 0 acc r <;> rfl
  ·have e1 : ((r.length : Int) != c.Tags) = true := by simpa using hq
   have e2 : ((r.length : Int) == c.Tags) = false := by simpa using hq
   simp only [e1, e2, Bool.false_eq_true, if_false, if_true])
  (fun a => by unfold zac; rw [if_neg (by simp)]) c.Rule 0 0 rfl (by omega)
/-! ### Systems -/
def gPr (P : z2k) (i : Nat) : Bool := match P.Procs[i]? with
 | some q => inR q.Vars 0 6 && kgL P.Chans (i : Int) q.Vars q.Body
 | none => false
def kgR (P : z2k) : Bool := !decide ((P.Chans.length : Int) > 4) && (inR (P.Procs.length : Int) 1 4 && (P.Chans.all (kgCh (P.Procs.length : Int)) && (List.range P.Procs.length).all (gPr P)))
theorem zy6 {P : z2k} (h1 : ¬ (P.Chans.length : Int) > 4) (h2 : P.Chans.all (kgCh (P.Procs.length : Int)) = true) : okCs P := by
 refine ⟨by omega, fun c hc => ?_⟩
 have := List.all_eq_true.1 h2 c hc
 simp only [kgCh, inR, Bool.and_eq_true, decide_eq_true_eq] at this
 exact this.2.2.1
theorem zu4 {n i x : Nat} (h : (List.range n)[i]? = some x) : x = i ∧ i < n := by
 have := List.getElem?_eq_some_iff.1 h
 obtain ⟨hl, hx⟩ := this
 simp at hl hx
 exact ⟨hx.symm, hl⟩
theorem zsl {P : z2k} (h : kokP P) : zbr (tP P) = some (kgR P) := by
 obtain ⟨k1, k2, k3, k4⟩ := h
 have hC : (tP P).Chans.length = P.Chans.length := by simp [tP]
 have hQ : (tP P).Procs.length = P.Procs.length := by simp [tP]
 unfold zbr kgR
 simp only [hC, hQ, zb8, obs, zf8]
 by_cases h4 : (P.Chans.length : Int) > 4
 ·simp only [decide_eq_true h4, Bool.true_or, if_true, Bool.not_true, Bool.false_and]
 ·simp only [decide_eq_false h4, Bool.false_or, Bool.not_false, Bool.true_and]
  cases hp : inR (P.Procs.length : Int) 1 4 with
  | false => simp only [Bool.not_false, if_true, Bool.false_and]
  | true =>
   simp only [Bool.not_true, Bool.false_eq_true, if_false, Bool.true_and]
   rw [zib (O := Bool) (body := z9q (tP P)) P.Chans (kgCh (P.Procs.length : Int)) false (by omega) (fun i x hx hi hm hlt hw => by
    unfold z9q
    have e : idx (tP P).Chans (i : Int) = some (tCh x) := by show idx (P.Chans.map tCh) _ = _; rw [zid, hi]; rfl
    simp only [hC, hQ]
    rw [if_pos (by simpa using hlt)]
    simp only [e, obs, zy5 (k2 x hm) k3, hw]
    cases kgCh (P.Procs.length : Int) x <;> rfl) (by unfold z9q; rw [if_neg (by simp [hC])])]
   cases hch : P.Chans.all (kgCh (P.Procs.length : Int)) with
   | false => rfl
   | true =>
    have hok := zy6 h4 hch
    simp only [if_true, obs, Sum.elim_inr, Bool.true_and]
    have hl := zib (O := Bool) (body := z9r (tP P)) (List.range P.Procs.length) (gPr P) false (by simp; omega) (fun i x hx hi hm hlt hw => by
     obtain ⟨rfl, hlt⟩ := zu4 hx
     have hq : P.Procs[x]? = some P.Procs[x] := List.getElem?_eq_getElem hlt
     have e : idx (tP P).Procs (x : Int) = some (tPr P.Procs[x]) := by show idx (P.Procs.map tPr) _ = _; rw [zid, zp0 hq]; rfl
     unfold z9r
     simp only [hQ]
     rw [if_pos (by simpa using hlt)]
     simp only [e, obs, zb8, hw, show (tPr P.Procs[x]).Vars = P.Procs[x].Vars from id rfl, show (tPr P.Procs[x]).Body = tL P.Procs[x].Body from id rfl]
     have hg : gPr P x = (inR P.Procs[x].Vars 0 6 && kgL P.Chans (x : Int) P.Procs[x].Vars P.Procs[x].Body) := by unfold gPr; rw [hq]
     rw [hg]
     cases hv : inR P.Procs[x].Vars 0 6 with
     | false => rfl
     | true =>
      have hv2 : 0 ≤ P.Procs[x].Vars ∧ P.Procs[x].Vars ≤ 6 := by
       simp only [inR, Bool.and_eq_true, decide_eq_true_eq] at hv; exact hv
      have := z03t hok (p := (x : Int)) hv2.1 hv2.2 (k4 P.Procs[x] (List.getElem_mem hlt))
      simp only [Bool.not_true, Bool.false_eq_true, if_false, Bool.true_and, show z1q.mk (tP P) (x : Int) P.Procs[x].Vars = lk P (x : Int) P.Procs[x].Vars from id rfl, this, obs]
      cases kgL P.Chans (x : Int) P.Procs[x].Vars P.Procs[x].Body <;> rfl) (by unfold z9r; rw [if_neg (by simp [hQ])])
    rw [hl]
    cases (List.range P.Procs.length).all (gPr P) <;> rfl
theorem z009 {P : z2k} (h : kokP P) : zhl P = some (kgR P) := by
 obtain ⟨k1, k2, k3, k4⟩ := h
 unfold zhl kgR
 simp only [obs, zf8]
 have hin : (decide ((P.Procs.length : Int) < 1) || decide ((P.Procs.length : Int) > 4)) = !inR (P.Procs.length : Int) 1 4 := by
  unfold inR
  by_cases a : (P.Procs.length : Int) < 1
  ·have : ¬ 1 ≤ (P.Procs.length : Int) := by omega
   simp [a, this]
  ·by_cases b : (P.Procs.length : Int) > 4
   ·have : ¬ (P.Procs.length : Int) ≤ 4 := by omega
    simp [b, this]
   ·have e1 : 1 ≤ (P.Procs.length : Int) := by omega
    have e2 : (P.Procs.length : Int) ≤ 4 := by omega
    simp only [decide_eq_false a, decide_eq_false b, decide_eq_true e1, decide_eq_true e2]; rfl
 rw [hin]
 by_cases h4 : (P.Chans.length : Int) > 4
 ·simp only [decide_eq_true h4, Bool.true_or, if_true, Bool.not_true, Bool.false_and]
 ·simp only [decide_eq_false h4, Bool.false_or, Bool.not_false, Bool.true_and]
  cases hp : inR (P.Procs.length : Int) 1 4 with
  | false => simp only [Bool.not_false, if_true, Bool.false_and]
  | true =>
   simp only [Bool.not_true, Bool.false_eq_true, if_false, Bool.true_and]
   rw [zib (O := Bool) (body := zc3 P) P.Chans (kgCh (P.Procs.length : Int)) false (by omega) (fun i x hx hi hm hlt hw => by
    unfold zc3
    rw [if_pos (by simpa using hlt)]
    have hwr : IntKind.i64.wrap ((x.Rule.length : Int) - 1) = (x.Rule.length : Int) - 1 := w64 (by have := (k2 x hm).1; omega) (by have := (k2 x hm).1; omega)
    simp only [hi, obs, hw, hwr, zf8, zb9, z03v (k2 x hm), z01s]
    have key : kgCh (P.Procs.length : Int) x = (!(decide (x.Kind < 0) || (decide (x.Kind > 2) || (decide (x.Size < 1) || (decide (x.Size > 16) || (decide (x.Tags < 1) || (decide (x.Tags > 4) || (decide (x.From < 0) || (decide (x.From ≥ (P.Procs.length : Int)) || (decide (x.To < 0) || (decide (x.To ≥ (P.Procs.length : Int)) || (x.From == x.To || decide ((x.Rule.length : Int) > 8)))))))))))) && (match gTop x with | some t => !((!n0 x.Rule) && (t != (x.Rule.length : Int) - 1)) | none => false)) := by
     have lt (a b : Int) : (!decide (a < b)) = decide (b ≤ a) := by by_cases q : a < b <;> simp [q] <;> omega
     have ge (a b : Int) : (!decide (a ≥ b)) = decide (a ≤ b - 1) := by by_cases q : a ≥ b <;> simp [q] <;> omega
     have gt (a b : Int) : (!decide (a > b)) = decide (a ≤ b) := by by_cases q : a > b <;> simp [q] <;> omega
     simp only [Bool.not_or, lt, ge, gt, kgCh, inR, gRu]
     cases gTop x with
     | none => simp only [Bool.and_false]
     | some t =>
      simp only [Bool.not_and, Bool.not_not, bne]
      cases hz : n0 x.Rule with
      | true =>
       have : (x.Rule.length : Int) ≤ 8 := by
        have : (x.Rule.length : Int) = 0 := by unfold n0 at hz; simpa using hz
        omega
       simp only [decide_eq_true this, Bool.true_or, Bool.and_true, Bool.and_assoc]
      | false =>
       simp only [Bool.false_or]
       ac_rfl
    rw [key]
    generalize (decide (x.Kind < 0) || (decide (x.Kind > 2) || (decide (x.Size < 1) || (decide (x.Size > 16) || (decide (x.Tags < 1) || (decide (x.Tags > 4) || (decide (x.From < 0) || (decide (x.From ≥ (P.Procs.length : Int)) || (decide (x.To < 0) || (decide (x.To ≥ (P.Procs.length : Int)) || (x.From == x.To || decide ((x.Rule.length : Int) > 8)))))))))))) = big
    cases big with
    | true => rfl
    | false =>
     simp only [Bool.false_eq_true, if_false, Bool.not_false, Bool.true_and]
     cases gTop x with
     | none => rfl
     | some t =>
      simp only [so, Sum.elim_inr]
      exact iteY _ _ _) (by unfold zc3; rw [if_neg (by simp)])]
   cases hch : P.Chans.all (kgCh (P.Procs.length : Int)) with
   | false => rfl
   | true =>
    have hok := zy6 h4 hch
    simp only [if_true, obs, Sum.elim_inr, Bool.true_and]
    have hl := zib (O := Bool) (body := zc4 P) (List.range P.Procs.length) (gPr P) false (by simp; omega) (fun i x hx hi hm hlt hw => by
     obtain ⟨rfl, hlt⟩ := zu4 hx
     have hq : P.Procs[x]? = some P.Procs[x] := List.getElem?_eq_getElem hlt
     have e : idx P.Procs (x : Int) = some P.Procs[x] := zp0 hq
     unfold zc4
     rw [if_pos (by simpa using hlt)]
     have := z008 hok (p := (x : Int)) e (k4 P.Procs[x] (List.getElem_mem hlt))
     simp only [e, obs, hw, this, zf8]
     have hg : gPr P x = (inR P.Procs[x].Vars 0 6 && kgL P.Chans (x : Int) P.Procs[x].Vars P.Procs[x].Body) := by unfold gPr; rw [hq]
     rw [hg]
     have hv : inR P.Procs[x].Vars 0 6 = !(decide (P.Procs[x].Vars < 0) || decide (P.Procs[x].Vars > 6)) := by
      unfold inR
      by_cases a : P.Procs[x].Vars < 0
      ·have : ¬ 0 ≤ P.Procs[x].Vars := by omega
       simp [a, this]
      ·by_cases b : P.Procs[x].Vars > 6
       ·have : ¬ P.Procs[x].Vars ≤ 6 := by omega
        simp [b, this]
       ·have e1 : 0 ≤ P.Procs[x].Vars := by omega
        have e2 : P.Procs[x].Vars ≤ 6 := by omega
        simp only [decide_eq_false a, decide_eq_false b, decide_eq_true e1, decide_eq_true e2]; rfl
     simp only [hv]
     cases decide (P.Procs[x].Vars < 0) <;> cases decide (P.Procs[x].Vars > 6) <;> cases kgL P.Chans (x : Int) P.Procs[x].Vars P.Procs[x].Body <;> rfl) (by unfold zc4; rw [if_neg (by simp)])
    rw [hl]
    cases (List.range P.Procs.length).all (gPr P) <;> rfl
end Go.Proofs.YtgmbfjcidiedfaaGreatDoor.Abs.Ck
/- The statements' own check: a small system is told, and it is right; none isn't. -/
namespace Go.Proofs.YtgmbfjcidiedfaaGreatDoor.Abs.Ck
open Go Go.RowKit Wri
set_option linter.unusedVariables false
set_option linter.unusedSimpArgs false
abbrev cB : ByteArray := ByteArray.mk #[99]
abbrev pB : ByteArray := ByteArray.mk #[112]
abbrev qB : ByteArray := ByteArray.mk #[113]
abbrev aB : ByteArray := ByteArray.mk #[97]
abbrev oB : ByteArray := ByteArray.mk #[]
def z03w : zc7 := ⟨[⟨cB, 0, 1, pB, qB, [aB]⟩], [], [⟨pB, [], [.mk 4 cB aB ⟨1, 1, oB, []⟩ ⟨0, ⟨0, 0, oB, []⟩, ⟨0, 0, oB, []⟩⟩ [] [] []]⟩, ⟨qB, [], []⟩]⟩
def ckS : z2l := ⟨[⟨cB, 0, 1, pB, qB, [aB]⟩], [], [⟨pB, [], [.mk 4 cB aB ⟨1, 1, oB, []⟩ ⟨0, ⟨0, 0, oB, []⟩, ⟨0, 0, oB, []⟩⟩ [] [] []]⟩, ⟨qB, [], []⟩]⟩
theorem z087 : cSys z03w = ckS := by simp [z03w, ckS, cSys, cCh, cPr, cL, cS, cE, cEs, cC, cA]
abbrev ckT : ByteArray := (ByteArray.mk #[99, 104, 97, 110, 32, 99, 32, 98, 108, 111, 99, 107, 32, 49, 32, 102, 114, 111, 109, 32, 112, 32, 116, 111, 32, 113, 32, 123, 32, 97, 32, 125, 32, 59, 32, 112, 114, 111, 99, 32, 112, 32, 123, 32, 115, 101, 110, 100, 32, 99, 32, 46, 32, 97, 32, 40, 32, 49, 32, 41, 32, 59, 32, 125, 32, 112, 114, 111, 99, 32, 113, 32, 123, 32, 125])
theorem ck_g : Par.gF ckT = (z03w, 0, 0) := by kernel_rfl
theorem ck_p : za2 ckT = some (ckS, 0, 0) := by
 rw [Par.parse_f (by decide), Par.gF_eq, ck_g, z087]
theorem z088 : okSys ckS := by
 have z0 : oB.size ≤ 4194304 := by decide
 have z1 : pB.size ≤ 4194304 := by decide
 have z2 : qB.size ≤ 4194304 := by decide
 have z3 : aB.size ≤ 4194304 := by decide
 have z4 : cB.size ≤ 4194304 := by decide
 simp only [ckS, Wri.okSys, Wri.okCh, Wri.okP, Wri.okL, Wri.okS, Wri.okE, Wri.okEs, Wri.okC, Wri.okA, Wri.in64, List.map_nil, List.map_cons, List.mem_cons, List.not_mem_nil, or_false, forall_eq_or_imp, forall_eq, z0, z1, z2, z3, z4]
 simp
theorem z089 : z00a ckS ≤ 100 := by
 simp [ckS, z00a, sumN, szCh, szP, szL, szS, szE, szEs, szC, szA]
theorem z00b : zcc ckS = some true := by
 unfold zcc
 rw [z03x z088 (by have := z089; omega)]
 have h1 := zgs (b := 112) (by decide)
 have h2 := zgs (b := 113) (by decide)
 have h3 := zgs (b := 97) (by decide)
 have h4 := zgs (b := 99) (by decide)
 have hb : (sSys ckS).bad = false := by
  simp [ckS, Wri.sSys, Wri.flatW, Wri.sCh, Wri.wTag, Wri.sP, Wri.sL, Wri.sS, Wri.sE, Wri.inP, Wri.wLeaf, Wri.wW, Wri.wN, Wri.wI, Wri.wM, Wri.wD, Wr.nil, Wri.sumK, Wri.pairK, Wri.signW, Wri.kindOk, h1, h2, h3, h4, z08a, z00c]
 unfold endW
 rw [hb]
 simp only [obs, Bool.false_eq_true, if_false]
 split
 ·rfl
 ·split <;> rfl
/-! ### The maker -/
theorem zy7 (a : ByteArray) : z1j [] a = some (-1) := by
 unfold z1j
 rw [z56 (r := .inr ()) (by rfl)]; rfl
theorem zy8 (a : ByteArray) (r : List ByteArray) : z1j (a :: r) a = some 0 := by
 unfold z1j
 rw [z56 (r := .inl 0) (by simp [z3r, idx])]; rfl
theorem z03y {a x : ByteArray} (h : (a.toList == x.toList) = false) : z1j [x] a = some (-1) := by
 unfold z1j
 rw [zay (y := 1) (by simp [z3r, idx, show ¬ a.toList = x.toList by simpa using h]; rfl), z56 (r := .inr ()) (by rfl)]; rfl
theorem z06j {a x : ByteArray} (h : (a.toList == x.toList) = false) : z1j [x, a] a = some 1 := by
 unfold z1j
 rw [zay (y := 1) (by simp [z3r, idx, show ¬ a.toList = x.toList by simpa using h]; rfl), z56 (r := .inl 1) (by simp [z3r, idx])]; rfl
theorem q_p : (qB.toList == pB.toList) = false := by rw [Go.ByteArray.toList_eq, Go.ByteArray.toList_eq]; rfl
theorem zfs (m : z02) (e : Int) : z1w m true e = some m := by unfold z1w; simp
theorem z06k (m : z02) : z60 m [] = some m := by
 unfold z60
 rw [z56 (r := .inr (m, m.f_p.Chans, m.f_p.Procs, m.f_chans, m.f_procs)) (by rfl)]; rfl
theorem z06l (m : z02) (a : ByteArray) : z60 m [a] = some m := by
 unfold z60
 rw [zay (y := (1, m, m.f_p.Chans, m.f_p.Procs, m.f_chans, m.f_procs, [a])) (by
  simp [z8x, idx, z94, z2r, zy7, zfs, app]; rfl)]
 rw [z56 (r := .inr (m, m.f_p.Chans, m.f_p.Procs, m.f_chans, m.f_procs)) (by rfl)]; rfl
abbrev ch0 : z0m := ⟨0, 1, 0, 0, 1, []⟩
abbrev ch1 : z0m := ⟨0, 1, 0, 1, 1, []⟩
theorem zvy : z87 ⟨ckS, ⟨[], []⟩, [], [], 0, [], 0⟩ = some ⟨ckS, ⟨[ch0], []⟩, [cB], [], 0, [], 0⟩ := by
 unfold z87
 rw [show (decide (((z02.mk ckS ⟨[], []⟩ [] [] 0 [] 0).f_s.Chans.length : Int) ≤ 4)) = true from rfl, zfs, obs]
 rw [zay (y := (1, ⟨ckS, ⟨[ch0], []⟩, [cB], [], 0, [], 0⟩, [ch0], [], [cB], [])) (by
  unfold z8f
  rw [if_pos (by rfl)]
  show z93 ⟨ckS, ⟨[], []⟩, [], [], 0, [], 0⟩ cB >>= _ = _
  rw [show z93 ⟨ckS, ⟨[], []⟩, [], [], 0, [], 0⟩ cB = some (⟨ckS, ⟨[], []⟩, [], [], 0, [], 0⟩, [cB]) by
   simp [z93, z2r, zy7, zfs, app], obs]
  show (((if decide ((1 : Int) ≥ 1) = true then (if decide ((1 : Int) ≤ 16) = true then (z1w ⟨ckS, ⟨[], []⟩, [cB], [], 0, [], 0⟩ true 10 >>= _) else _) else _ : Option _)) >>= _) = _
  rw [if_pos (by rfl), if_pos (by rfl), zfs, obs, obs]
  show z60 ⟨ckS, ⟨[], []⟩, [cB], [], 0, [], 0⟩ [aB] >>= _ = _
  rw [z06l]
  rfl)]
 rw [z56 (r := .inr (⟨ckS, ⟨[ch0], []⟩, [cB], [], 0, [], 0⟩, [ch0], [], [cB], [])) (by rfl)]
 rfl
abbrev m1 (c : z0m) (ps : List ByteArray) : z02 := ⟨ckS, ⟨[c], []⟩, [cB], ps, 0, [], 0⟩
theorem z08b : iter (z68 (m1 ch0 [], [ch0], [], [cB], [])) (0, m1 ch0 [], [ch0], [], [cB], []) = some (.inr (m1 ch0 [pB, qB], [ch0], [], [cB], [pB, qB])) := by
 rw [zay (y := (1, m1 ch0 [pB], [ch0], [], [cB], [pB])) (by
  unfold z68
  rw [if_pos (by rfl)]
  show z61 (m1 ch0 []) pB >>= _ = _
  rw [show z61 (m1 ch0 []) pB = some (m1 ch0 [], [pB]) by
   simp [z61, z2r, zy7, zfs, app], obs]
  rfl)]
 rw [zay (y := (2, m1 ch0 [pB, qB], [ch0], [], [cB], [pB, qB])) (by
  unfold z68
  rw [if_pos (by rfl)]
  show z61 (m1 ch0 [pB]) qB >>= _ = _
  rw [show z61 (m1 ch0 [pB]) qB = some (m1 ch0 [], [pB, qB]) by
   simp [z61, z2r, z03y q_p, zfs, app], obs]
  rfl)]
 exact z56 (by rfl)
theorem pl_p (c : z0m) : z5d (m1 c [pB, qB]) pB = some (m1 c [pB, qB], 0) := by
 unfold z5d
 simp only [zy8, obs]
 rw [show decide ((0 : Int) ≥ 0) = true from rfl, zfs]
 rfl
theorem pl_q (c : z0m) : z5d (m1 c [pB, qB]) qB = some (m1 c [pB, qB], 1) := by
 unfold z5d
 simp only [z06j q_p, obs]
 rw [show decide ((1 : Int) ≥ 0) = true from rfl, zfs]
 rfl
theorem z08c : iter (z79 (m1 ch0 [pB, qB], [ch0], [], [cB], [pB, qB])) (0, m1 ch0 [pB, qB], [ch0], [], [cB], [pB, qB]) = some (.inr (m1 ch1 [pB, qB], [ch1], [], [cB], [pB, qB])) := by
 rw [zay (y := (1, m1 ch1 [pB, qB], [ch1], [], [cB], [pB, qB])) (by
  unfold z79
  rw [if_pos (by rfl)]
  show z5d (m1 ch0 [pB, qB]) pB >>= _ = _
  rw [pl_p, obs]
  show z5d (m1 ch0 [pB, qB]) qB >>= _ = _
  rw [pl_q, obs]
  dsimp only
  rw [show idx [ch0] (0 : Int) = some ch0 from rfl, obs]
  dsimp only
  rw [show idx (seti [ch0] (0 : Int) (z0m.mk 0 1 0 1 1 [])) (0 : Int) = some ch1 from rfl, obs]
  show z1w (m1 ch1 [pB, qB]) true 9 >>= _ = _
  rw [zfs]
  rfl)]
 exact z56 (by rfl)
theorem z03z : z9i (m1 ch0 []) = some (m1 ch1 [pB, qB]) := by
 unfold z9i
 rw [if_pos (by rfl)]
 show ((z1w (m1 ch0 []) true 10 >>= _) >>= _) = _
 rw [zfs, obs, obs]
 show iter (z68 (m1 ch0 [], [ch0], [], [cB], [])) (0, m1 ch0 [], [ch0], [], [cB], []) >>= _ = _
 rw [z08b, obs, Sum.elim_inr]
 show iter (z79 (m1 ch0 [pB, qB], [ch0], [], [cB], [pB, qB])) (0, m1 ch0 [pB, qB], [ch0], [], [cB], [pB, qB]) >>= _ = _
 rw [z08c, obs, Sum.elim_inr]
abbrev z0 : z4y := ⟨0, ⟨0, 0, 0, []⟩, ⟨0, 0, 0, []⟩⟩
abbrev zf9 : z09 := .mk 4 0 0 0 ⟨1, 1, 0, []⟩ z0 [] [] []
abbrev ckQ : z10 := ⟨[ch1], [⟨0, [zf9]⟩, ⟨0, []⟩]⟩
theorem z040 (m : z02) : z7p m ⟨1, 1, oB, []⟩ = some (m, ⟨1, 1, 0, []⟩) := by
 refine Sn.unf (h := 1) fun n => ?_
 cases n with
 | zero => exact .inr ⟨rfl, by omega⟩
 | succ n =>
  refine .inl ?_
  simp only [z48]
  rw [if_pos (by rfl), z56 (r := .inr (m, m.f_p.Chans, m.f_p.Procs, m.f_chans, m.f_procs, [])) (by rfl)]
  rfl
theorem pl_2 (m : z02) (a : ByteArray) : z4j m [a] a = some (m, 0) := by
 unfold z4j
 simp only [zy8, obs]
 rw [show decide ((0 : Int) ≥ 0) = true from rfl, zfs]
 rfl
theorem z041 : z9k (m1 ch1 [pB, qB]) (.mk 4 cB aB ⟨1, 1, oB, []⟩ ⟨0, ⟨0, 0, oB, []⟩, ⟨0, 0, oB, []⟩⟩ [] [] []) = some (m1 ch1 [pB, qB], zf9) := by
 unfold z9k
 rw [show z57 (m1 ch1 [pB, qB]) (z06.mk 4 cB aB ⟨1, 1, oB, []⟩ ⟨0, ⟨0, 0, oB, []⟩, ⟨0, 0, oB, []⟩⟩ [] [] []).Name = some (m1 ch1 [pB, qB], 0, [aB]) by
  unfold z57
  rw [show z7a (m1 ch1 [pB, qB]) (z06.mk 4 cB aB ⟨1, 1, oB, []⟩ ⟨0, ⟨0, 0, oB, []⟩, ⟨0, 0, oB, []⟩⟩ [] [] []).Name = some (m1 ch1 [pB, qB], 0) by
   unfold z7a
   show z1j [cB] cB >>= _ = _
   simp only [zy8, obs]
   rw [show decide ((0 : Int) ≥ 0) = true from rfl, zfs]
   rfl, obs, if_neg (by decide)]
  dsimp only
  rw [show idx [ch1] (0 : Int) = some ch1 from rfl, obs, show zeh ch1 = some 0 from rfl, obs]
  show z1w (m1 ch1 [pB, qB]) true 9 >>= _ = _
  rw [zfs]
  rfl, obs]
 show z4j (m1 ch1 [pB, qB]) [aB] aB >>= _ = _
 rw [pl_2, obs]
 show z7p (m1 ch1 [pB, qB]) ⟨1, 1, oB, []⟩ >>= _ = _
 rw [z040]
 rfl
theorem z00d : z81 (m1 ch1 [pB, qB]) [.mk 4 cB aB ⟨1, 1, oB, []⟩ ⟨0, ⟨0, 0, oB, []⟩, ⟨0, 0, oB, []⟩⟩ [] [] []] = some (m1 ch1 [pB, qB], [zf9]) := by
 refine Sn.unf (h := 2) fun n => ?_
 match n with
 | 0 => exact .inr ⟨rfl, by omega⟩
 | 1 =>
  refine .inr ⟨?_, by omega⟩
  simp only [z2f]
  rw [zc9]
  rfl
 | n + 2 =>
  refine .inl ?_
  simp only [z2f]
  rw [zay (y := (1, m1 ch1 [pB, qB], [ch1], [], [cB], [pB, qB], [zf9])) (by
   unfold z8y
   rw [if_pos (by rfl), show idx [z06.mk 4 cB aB ⟨1, 1, oB, []⟩ ⟨0, ⟨0, 0, oB, []⟩, ⟨0, 0, oB, []⟩⟩ [] [] []] (0 : Int) = some (z06.mk 4 cB aB ⟨1, 1, oB, []⟩ ⟨0, ⟨0, 0, oB, []⟩, ⟨0, 0, oB, []⟩⟩ [] [] []) from rfl, obs, if_neg (by decide)]
   show z3u (n + 1) (m1 ch1 [pB, qB]) (z06.mk 4 cB aB ⟨1, 1, oB, []⟩ ⟨0, ⟨0, 0, oB, []⟩, ⟨0, 0, oB, []⟩⟩ [] [] []) >>= _ = _
   rw [show z3u (n + 1) (m1 ch1 [pB, qB]) (z06.mk 4 cB aB ⟨1, 1, oB, []⟩ ⟨0, ⟨0, 0, oB, []⟩, ⟨0, 0, oB, []⟩⟩ [] [] []) = some (m1 ch1 [pB, qB], zf9) by
    simp only [z3u]
    rw [if_neg (by decide), if_neg (by decide), if_neg (by decide), if_neg (by decide), if_neg (by decide), if_pos (by rfl), z041]
    rfl, obs]
   rfl)]
  rw [z56 (r := .inr (m1 ch1 [pB, qB], [ch1], [], [cB], [pB, qB], [zf9])) (by rfl)]
  rfl
theorem z042 (m : z02) : z81 m [] = some (m, []) := by
 refine Sn.unf (h := 1) fun n => ?_
 cases n with
 | zero => exact .inr ⟨rfl, by omega⟩
 | succ n =>
  refine .inl ?_
  simp only [z2f]
  rw [z56 (r := .inr (m, m.f_p.Chans, m.f_p.Procs, m.f_chans, m.f_procs, [])) (by rfl)]
  rfl
abbrev m2 (p : Int) (l : List z0w) : z02 := ⟨ckS, ⟨[ch1], l⟩, [cB], [pB, qB], p, [], 0⟩
theorem zy9 (l : List z0w) (p i : Int) (q : z59) (b : List z09) (hv : q.Vars = []) (hl : l.length ≤ 10) (hs : z81 (m2 i l) q.Body = some (m2 i l, b)) : z7q (m2 p l) i q = some (m2 i (l ++ [⟨0, b⟩])) := by
 unfold z7q
 rw [hv, show decide ((([] : List ByteArray).length : Int) ≤ 6) = true from rfl, zfs, obs, z06k, obs]
 show z81 (m2 i l) q.Body >>= _ = _
 rw [hs, obs]
 show app 32 l [⟨0, b⟩] >>= _ = _
 rw [zae (by simp; omega)]
 rfl
theorem ck_f : zev ckS = some (ckQ, 0) := by
 unfold zev
 rw [z00b, obs, if_neg (by decide), zvy, obs, z03z, obs, z56 (r := .inr ()) (by rfl), obs, Sum.elim_inr]
 show iter (z9n ckS) (0, m2 0 [], [ch1], [], [cB], [pB, qB]) >>= _ = _
 rw [zay (y := (1, m2 0 [⟨0, [zf9]⟩], [ch1], [⟨0, [zf9]⟩], [cB], [pB, qB])) (by
  unfold z9n
  rw [if_pos (by rfl), show idx ckS.Procs (0 : Int) = some ⟨pB, [], [.mk 4 cB aB ⟨1, 1, oB, []⟩ ⟨0, ⟨0, 0, oB, []⟩, ⟨0, 0, oB, []⟩⟩ [] [] []]⟩ from rfl, obs, if_pos (by rfl)]
  show ((z7q (m2 0 []) 0 _ >>= _) >>= _) = _
  rw [zy9 [] 0 0 _ [zf9] rfl (by decide) z00d]
  rfl)]
 rw [zay (y := (2, m2 1 [⟨0, [zf9]⟩, ⟨0, []⟩], [ch1], [⟨0, [zf9]⟩, ⟨0, []⟩], [cB], [pB, qB])) (by
  unfold z9n
  rw [if_pos (by rfl), show idx ckS.Procs (1 : Int) = some ⟨qB, [], []⟩ from rfl, obs, if_pos (by rfl)]
  show ((z7q (m2 0 [⟨0, [zf9]⟩]) 1 _ >>= _) >>= _) = _
  rw [zy9 [⟨0, [zf9]⟩] 0 1 _ [] rfl (by decide) (z042 _)]
  rfl)]
 rw [z56 (r := .inr (m2 1 [⟨0, [zf9]⟩, ⟨0, []⟩], [ch1], [⟨0, [zf9]⟩, ⟨0, []⟩], [cB], [pB, qB])) (by rfl)]
 rfl
/-! ### The check -/
def rkQ : z2k := ⟨[⟨0, 1, 0, 1, 1, []⟩], [⟨0, [.mk 4 0 0 0 ⟨1, 1, 0, []⟩ ⟨0, ⟨0, 0, 0, []⟩, ⟨0, 0, 0, []⟩⟩ [] [] []]⟩, ⟨0, []⟩]⟩
theorem rk_t : tP rkQ = ckQ := by simp [rkQ, tP, tCh, tPr, tL, tS, tE, tEs, tC, tA]
theorem z08d : kokP rkQ := by simp [kokP, rkQ, zL, zS, kzE, zEs, kzC, kzA]
theorem rk_g : kgR rkQ = true := by kernel_rfl
theorem z00e : zgb = some true := by
 unfold zgb
 show (za2 ckT >>= _) = _
 rw [ck_p, obs, ck_f, obs, ← rk_t, zsl z08d, rk_g, show z10.mk [] [] = tP ⟨[], []⟩ from rfl, zsl (P := ⟨[], []⟩) (by simp [kokP])]
 rw [show kgR ⟨[], []⟩ = false from rfl, rk_t]
 rfl
/-- The law in plain form. -/
theorem right_law {a0 : z2k} (h : kokP a0) : zdc a0 = some true := by
 unfold zdc
 rw [z00e, obs, if_pos rfl, z03g h, obs, zsl h, obs, z009 h, obs]
 simp
end Go.Proofs.YtgmbfjcidiedfaaGreatDoor.Abs.Ck
/- The statements' systems with numbers, read off a row's data, with what they weigh. -/
namespace Go.Proofs.YtgmbfjcidiedfaaGreatDoor.Abs.Ck
open Go Go.RowKit Wri
set_option linter.unusedVariables false
set_option linter.unusedSimpArgs false
mutual
def mE : z34 → Nat
 | ⟨_, _, _, l⟩ => mEs l + 5
def mEs : List z34 → Nat
 | [] => 0
 | e :: r => mE e + mEs r
end
theorem zya : ∀ l, mEs l = sumM mE l
 | [] => by simp only [mEs, sumM]
 | e :: r => by simp only [mEs, sumM, zya r]
mutual
theorem zE_m : ∀ e, kzE e ≤ mE e
 | ⟨_, _, _, l⟩ => by have := z06m l; simp only [kzE, mE]; omega
theorem z06m : ∀ l, zEs l ≤ mEs l
 | [] => by simp only [zEs, mEs]; omega
 | e :: r => by have := zE_m e; have := z06m r; simp only [zEs, mEs]; omega
end
def mC (c : z8d) : Nat := mE c.L + mE c.R + 2
mutual
def mS : z0v → Nat
 | .mk _ _ _ _ e c b l a => mE e + mC c + mL b + mL l + mA a + 8
def mL : List z0v → Nat
 | [] => 0
 | s :: r => mS s + mL r
def mA : List z5w → Nat
 | [] => 0
 | .mk _ _ b :: r => (mL b + 4) + mA r
end
def mAr (x : z5w) : Nat := mL x.Body + 4
theorem zu5 : ∀ l, mL l = sumM mS l
 | [] => by simp only [mL, sumM]
 | e :: r => by simp only [mL, sumM, zu5 r]
theorem z01u : ∀ l, mA l = sumM mAr l
 | [] => by simp only [mA, sumM]
 | .mk t v b :: r => by simp only [mA, sumM, z01u r]; rfl
mutual
theorem zS_m : ∀ s, zS s ≤ mS s
 | .mk k x ch t e c b l a => by
  have := zE_m e; have := zE_m c.L; have := zE_m c.R; have := zL_m b; have := zL_m l; have := zA_m a
  simp only [zS, kzC, mS, mC]; omega
theorem zL_m : ∀ l, zL l ≤ mL l + 1
 | [] => by simp only [zL, mL]; omega
 | e :: r => by have := zS_m e; have := zL_m r; simp only [zL, mL]; omega
theorem zA_m : ∀ l, kzA l ≤ mA l + 1
 | [] => by simp only [kzA, mA]; omega
 | .mk t v b :: r => by have := zL_m b; have := zA_m r; simp only [kzA, mA]; omega
end
def mRow (r : List Int) : Nat := sumM (fun _ => 1) r + 1
def mCh (c : z4k) : Nat := sumM mRow c.Rule + 7
def mPr (p : ze5) : Nat := mL p.Body + 3
def mP (p : z2k) : Nat := sumM mCh p.Chans + sumM mPr p.Procs + 3
theorem zqz {β : Type} {m : β → Nat} : ∀ {l : List β} {x : β}, x ∈ l → m x ≤ sumM m l
 | y :: r, x, h => by
  rcases List.mem_cons.1 h with rfl | h
  ·simp only [sumM]; omega
  ·have := zqz (m := m) h; simp only [sumM]; omega
theorem zr0 {β : Type} {m : β → Nat} (h : ∀ x, 1 ≤ m x) : ∀ l : List β, l.length ≤ sumM m l
 | [] => by simp
 | x :: r => by have := zr0 h r; have := h x; simp only [sumM, List.length_cons]; omega
theorem okP_of {p : z2k} (h : mP p ≤ 1048576) : kokP p := by
 unfold mP at h
 refine ⟨?_, fun c hc => ⟨?_, fun r hr => ?_⟩, ?_, fun x hx => ?_⟩
 ·have := zr0 (m := mCh) (fun x => by unfold mCh; omega) p.Chans; omega
 ·have h1 := zqz (m := mCh) hc
  have h2 := zr0 (m := mRow) (fun x => by unfold mRow; omega) c.Rule
  have e1 : mCh c = sumM mRow c.Rule + 7 := rfl
  omega
 ·have h1 := zqz (m := mCh) hc
  have h2 := zqz (m := mRow) hr
  have h3 := zr0 (m := fun _ : Int => 1) (fun x => Nat.le_refl _) r
  have e1 : mCh c = sumM mRow c.Rule + 7 := rfl
  have e2 : mRow r = sumM (fun _ => 1) r + 1 := rfl
  omega
 ·have := zr0 (m := mPr) (fun x => by unfold mPr; omega) p.Procs; omega
 ·have h1 := zqz (m := mPr) hx
  have h2 := zL_m x.Body
  have e1 : mPr x = mL x.Body + 3 := rfl
  omega
/-! ### Off the data -/
section
variable {H : Type} {enc : TypeId × Value → H} {w : World}
theorem zht {T E : TypeId} {τ : Type} {e : τ → List PV} {ok : τ → Prop} {m : τ → Nat} {sz : Nat} {P : Program} (hu : P.underlying T = some (.slice E)) (hsz : P.cellsOf E = sz) (hpos : 0 < sz) (hlen : ∀ x, (e x).length = sz) {fuel : Nat} (hE : ∀ f, f < fuel → DecB P enc w f E e ok m) :
  DecB P enc w fuel T (fun l : List τ => [.sl (l.map e)]) (fun l => (∀ x ∈ l, ok x) ∧ l.length ≤ maxLen) (fun l => sumM m l + 1) := by
 cases fuel with
 | zero => exact zq0
 | succ f => exact zuy hu hsz hpos hlen (hE f (Nat.lt_succ_self f))
abbrev tt {α : Type} : α → Prop := fun _ => True
theorem zyb : ∀ fuel, DecB Tryz.prog enc w fuel 100 z43 tt mE := by
 intro fuel
 induction fuel using Nat.strongRecOn with
 | _ fuel ih =>
  cases fuel with
  | zero => exact zq0
  | succ f =>
   refine zbc (N := 4) (fun x : Int × Int × Int × List z34 × Unit => z34.mk x.1 x.2.1 x.2.2.1 x.2.2.2.1) Tryz.underlying100 (by kernel_rfl)
    (z4n (sz := 1) rfl (by kernel_rfl) (z8k Tryz.underlying3 f) (z4n (sz := 1) rfl (by kernel_rfl) (z8k Tryz.underlying3 f) (z4n (sz := 1) rfl (by kernel_rfl) (z8k Tryz.underlying3 f)
     (z4n (sz := 1) rfl (by kernel_rfl) (zht Tryz.underlying98 (by kernel_rfl) (by decide) znv fun g hg => ih g (by omega)) (zge (by decide))))))
    (fun x => by rw [z7u]; rfl) (fun x h => trivial) (fun x => ?_)
   simp only [mE]
   rw [zya]; omega
theorem z06n (fuel : Nat) : DecB Tryz.prog enc w fuel 102 zee tt mC := by
 cases fuel with
 | zero => exact zq0
 | succ f =>
  refine zbc (N := 9) (fun x : Int × z34 × z34 × Unit => z8d.mk x.1 x.2.1 x.2.2.1) Tryz.underlying102 (by kernel_rfl)
   (z4n (sz := 1) rfl (by kernel_rfl) (z8k Tryz.underlying3 f) (z4n (sz := 4) rfl (by kernel_rfl) (zyb f) (z4n (sz := 4) rfl (by kernel_rfl) (zyb f) (zge (by decide)))))
   (fun x => by simp only [z7u]; rfl) (fun x h => trivial) (fun x => ?_)
  simp only [mC]; omega
theorem z06o : ∀ fuel, DecB Tryz.prog enc w fuel 105 z19 tt mS := by
 intro fuel
 induction fuel using Nat.strongRecOn with
 | _ fuel ih =>
  cases fuel with
  | zero => exact zq0
  | succ f =>
   have hL : ∀ g, g ≤ f → DecB Tryz.prog enc w g 57 (fun l : List z0v => [.sl (l.map z19)]) (fun l => (∀ x ∈ l, tt x) ∧ l.length ≤ maxLen) (fun l => sumM mS l + 1) := fun g hg =>
    zht Tryz.underlying57 (by kernel_rfl) (by decide) zit fun g' hg' => ih g' (by omega)
   have hA : ∀ g, g ≤ f → DecB Tryz.prog enc w g 108 z3s tt mAr := fun g hg => by
    cases g with
    | zero => exact zq0
    | succ g =>
     refine zbc (N := 3) (fun x : Int × Int × List z0v × Unit => z5w.mk x.1 x.2.1 x.2.2.1) Tryz.underlying108 (by kernel_rfl)
      (z4n (sz := 1) rfl (by kernel_rfl) (z8k Tryz.underlying3 g) (z4n (sz := 1) rfl (by kernel_rfl) (z8k Tryz.underlying3 g) (z4n (sz := 1) rfl (by kernel_rfl) (hL g (by omega)) (zge (by decide)))))
      (fun x => by rw [zbv]; rfl) (fun x h => trivial) (fun x => ?_)
     show mL x.2.2.1 + 4 ≤ 1 + (1 + (sumM mS x.2.2.1 + 1 + 0)) + 1
     rw [zu5]; omega
   refine zbc (N := 20) (fun x : Int × Int × Int × Int × z34 × z8d × List z0v × List z0v × List z5w × Unit => z0v.mk x.1 x.2.1 x.2.2.1 x.2.2.2.1 x.2.2.2.2.1 x.2.2.2.2.2.1 x.2.2.2.2.2.2.1 x.2.2.2.2.2.2.2.1 x.2.2.2.2.2.2.2.2.1) Tryz.underlying105 (by kernel_rfl)
    (z4n (sz := 1) rfl (by kernel_rfl) (z8k Tryz.underlying3 f) (z4n (sz := 1) rfl (by kernel_rfl) (z8k Tryz.underlying3 f) (z4n (sz := 1) rfl (by kernel_rfl) (z8k Tryz.underlying3 f) (z4n (sz := 1) rfl (by kernel_rfl) (z8k Tryz.underlying3 f)
     (z4n (sz := 4) rfl (by kernel_rfl) (zyb f) (z4n (sz := 9) rfl (by kernel_rfl) (z06n f) (z4n (sz := 1) rfl (by kernel_rfl) (hL f (Nat.le_refl f)) (z4n (sz := 1) rfl (by kernel_rfl) (hL f (Nat.le_refl f))
      (z4n (sz := 1) rfl (by kernel_rfl) (zht Tryz.underlying103 (by kernel_rfl) (by decide) zp4 fun g hg => hA g (by omega)) (zge (by decide)))))))))))
    (fun x => by rw [ze7]; simp only [z7u, zee]; rfl) (fun x h => trivial) (fun x => ?_)
   simp only [mS, zu5, z01u]; omega
theorem z06p (fuel : Nat) : DecB Tryz.prog enc w fuel 57 (fun l : List z0v => [.sl (l.map z19)]) (fun l => (∀ x ∈ l, tt x) ∧ l.length ≤ maxLen) (fun l => sumM mS l + 1) :=
 zht Tryz.underlying57 (by kernel_rfl) (by decide) zit fun g hg => z06o g
theorem z00f (fuel : Nat) : DecB Tryz.prog enc w fuel 56 z82 (fun l => (∀ x ∈ l, InK .i64 x) ∧ l.length ≤ maxLen) mRow :=
 zht (e := zj6) (m := fun _ => 1) Tryz.underlying56 (by kernel_rfl) (by decide) (fun _ => rfl) fun g hg => z8k Tryz.underlying3 g
theorem z043 (fuel : Nat) : DecB Tryz.prog enc w fuel 55 z1n tt mCh := by
 cases fuel with
 | zero => exact zq0
 | succ f =>
  refine zbc (N := 6) (fun x : Int × Int × Int × Int × Int × List (List Int) × Unit => z4k.mk x.1 x.2.1 x.2.2.1 x.2.2.2.1 x.2.2.2.2.1 x.2.2.2.2.2.1) Tryz.underlying55 (by kernel_rfl)
   (z4n (sz := 1) rfl (by kernel_rfl) (z8k Tryz.underlying3 f) (z4n (sz := 1) rfl (by kernel_rfl) (z8k Tryz.underlying3 f) (z4n (sz := 1) rfl (by kernel_rfl) (z8k Tryz.underlying3 f)
    (z4n (sz := 1) rfl (by kernel_rfl) (z8k Tryz.underlying3 f) (z4n (sz := 1) rfl (by kernel_rfl) (z8k Tryz.underlying3 f) (z4n (sz := 1) rfl (by kernel_rfl) (zht (e := z82) (m := mRow) (sz := 1) Tryz.underlying44 (by kernel_rfl) (by decide) (fun _ => rfl) fun g hg => z00f g) (zge (by decide))))))))
   (fun x => rfl) (fun x h => trivial) (fun x => ?_)
  simp only [mCh]; omega
theorem z044 (fuel : Nat) : DecB Tryz.prog enc w fuel 59 z36 tt mPr := by
 cases fuel with
 | zero => exact zq0
 | succ f =>
  refine zbc (N := 2) (fun x : Int × List z0v × Unit => ze5.mk x.1 x.2.1) Tryz.underlying59 (by kernel_rfl)
   (z4n (sz := 1) rfl (by kernel_rfl) (z8k Tryz.underlying3 f) (z4n (sz := 1) rfl (by kernel_rfl) (z06p f) (zge (by decide))))
   (fun x => rfl) (fun x h => trivial) (fun x => ?_)
  simp only [mPr, zu5]; omega
theorem decB_P (fuel : Nat) : DecB Tryz.prog enc w fuel 25 z25 tt mP := by
 cases fuel with
 | zero => exact zq0
 | succ f =>
  refine zbc (N := 2) (fun x : List z4k × List ze5 × Unit => z2k.mk x.1 x.2.1) Tryz.underlying25 (by kernel_rfl)
   (z4n (sz := 1) rfl (by kernel_rfl) (zht (e := z1n) (m := mCh) (sz := 6) Tryz.underlying22 (by kernel_rfl) (by decide) (fun _ => rfl) fun g hg => z043 g) (z4n (sz := 1) rfl (by kernel_rfl) (zht (e := z36) (m := mPr) (sz := 2) Tryz.underlying23 (by kernel_rfl) (by decide) (fun _ => rfl) fun g hg => z044 g) (zge (by decide))))
   (fun x => rfl) (fun x h => trivial) (fun x => ?_)
  simp only [mP]; omega
end
end Go.Proofs.YtgmbfjcidiedfaaGreatDoor.Abs.Ck
