/- The evaluator: states fitted to what they are wanted as. -/
import Derived.Test.YtgmbfjcidiedfaaGreatDoorEvD
namespace Go.Proofs.YtgmbfjcidiedfaaGreatDoor.Abs
open Go Go.RowKit
set_option linter.unusedVariables false
set_option linter.unusedSimpArgs false
section
variable {P : Program} {G : Nat → Option (List PV)} {tb : Tb} {tc : Tc}
/-- A cell as it is wanted. -/
def fitB (t x : BV) : BV := match t, x with
 | .any, _ => .any
 | .pv _, .emp => .pv (.sl [])
 | _, x => x
theorem zxe (t x : BV) : leB x (fitB t x) := by
 intro η J w v h
 unfold fitB
 split
 ·exact h.one
 ·obtain ⟨A, rfl⟩ := h; exact .nil A 0
 ·exact h
def fitL : List BV → List BV → List BV
 | t :: ts, x :: xs => fitB t x :: fitL ts xs
 | _, xs => xs
theorem zn7 {η : Hd} {J : Nat → Prop} {w : World} : ∀ (ts : List BV) {xs : List BV} {vs : List Value}, L2 (BVr η J w) xs vs → L2 (BVr η J w) (fitL ts xs) vs
 | [], xs, vs, h => h
 | t :: ts, [], vs, h => h
 | t :: ts, x :: xs, vs, h => by
  obtain ⟨v, vs', rfl, h1, h2⟩ := h.uncons
  exact L2.cons (zxe t x _ _ _ _ h1) (zn7 ts h2)
def fitX (t x : XV) : XV := match t, x with
 | .u, _ => .u
 | .c a, .c b => .c (fitB a b)
 | .agg a, .agg b => .agg (fitL a b)
 | .fn _ a b, .fn g c d => .fn g (fitL a c) (fitL b d)
 | _, x => x
theorem zxf {η : Hd} {J : Nat → Prop} {w : World} (t : XV) {x : XV} {v : Value} (h : XVr η J w x v) : XVr η J w (fitX t x) v := by
 unfold fitX
 split
 ·trivial
 ·exact zxe _ _ _ _ _ _ h
 ·obtain ⟨vs, e, hl⟩ := h; exact ⟨vs, e, zn7 _ hl⟩
 ·obtain ⟨fs, cs, e, h1, h2⟩ := h; exact ⟨fs, cs, e, zn7 _ h1, zn7 _ h2⟩
 ·exact h
def zvf : List XV → List XV → List XV
 | t :: ts, x :: xs => fitX t x :: zvf ts xs
 | _, xs => xs
theorem ztr {η : Hd} {J : Nat → Prop} {w : World} : ∀ (ts : List XV) {xs : List XV} {vs : List Value}, L2 (XVr η J w) xs vs → L2 (XVr η J w) (zvf ts xs) vs
 | [], xs, vs, h => h
 | t :: ts, [], vs, h => h
 | t :: ts, x :: xs, vs, h => by
  obtain ⟨v, vs', rfl, h1, h2⟩ := h.uncons
  exact L2.cons (zxf t h1) (ztr ts h2)
theorem z000 {η : Hd} {J : Nat → Prop} {w : World} (ts : List XV) {xs : List XV} {v : Value} (h : Rs η J w xs v) : Rs η J w (zvf ts xs) v := by
 match xs, h with
 | [], h =>
  obtain ⟨vs, e, hl⟩ := h
  have := hl.unnil
  subst this
  cases ts <;> exact ⟨[], e, L2.nil⟩
 | [x], h =>
  cases ts with
  | nil => exact h
  | cons t ts =>
   show Rs η J w (fitX t x :: zvf ts []) v
   have e : zvf ts [] = [] := by cases ts <;> rfl
   rw [e]
   exact zxf t h
 | x :: y :: r, h =>
  obtain ⟨vs, e, hl⟩ := h
  have h2 := ztr ts hl
  cases ts with
  | nil => exact ⟨vs, e, h2⟩
  | cons t ts => cases ts <;> exact ⟨vs, e, h2⟩
def fitE (env : List (Nat × List XV)) : List (Nat × List XV) → List (Nat × List XV)
 | [] => []
 | (t, tx) :: r => match lk env t with
  | some xs => (t, zvf tx xs) :: fitE env r
  | none => fitE env r
theorem zrw {env : List (Nat × List XV)} {t : Nat} {xs : List XV} : ∀ {te : List (Nat × List XV)}, lk (fitE env te) t = some xs → ∃ ys, lk env t = some ys ∧ ∀ η J w v, Rs η J w ys v → Rs η J w xs v
 | [], h => by cases h
 | (u, tx) :: r, h => by
  unfold fitE at h
  split at h
  ·rename_i ys hy
   simp only [lk] at h
   split at h
   ·rename_i e; subst e; injection h with h; subst h
    exact ⟨ys, hy, fun _ _ _ _ h => z000 tx h⟩
   ·exact zrw h
  ·exact zrw h
def fitO : Option Obj' → Option Obj' → Option Obj'
 | some (.box _ _ ts), some (.box m T cs) => some (.box m T (fitL ts cs))
 | some (.row _ true _ _ _), some (.row m _ E sz xs) => some (.row m true E sz xs)
 | none, _ => none
 | _, o => o
def fitS : z0r → z0r → z0r
 | t :: ts, o :: os => fitO t o :: fitS ts os
 | _, os => os
theorem zts : ∀ (ts os : z0r), (fitS ts os).length = os.length
 | [], os => by simp [fitS]
 | t :: ts, [] => by simp [fitS]
 | t :: ts, o :: os => by simp [fitS, zts ts os]
theorem z037 {t : Option Obj'} {o o' : Obj'} (h : fitO t (some o) = some o') : o'.mut = o.mut ∧ (o'.same = true → o.same = true) ∧ ∀ η J w b, ObjR η J w b o → ObjR η J w b o' := by
 unfold fitO at h
 split at h
 ·rename_i e
  cases e
  cases h
  refine ⟨rfl, fun h => h, fun η J w b h => ?_⟩
  obtain ⟨k, vs, h1, h2, h3⟩ := h
  exact ⟨k, vs, h1, h2, zn7 _ h3⟩
 ·rename_i e
  cases e
  cases h
  exact ⟨rfl, (fun h => by cases h), fun _ _ _ _ h => h⟩
 ·cases h
 ·cases h
  exact ⟨rfl, fun h => h, fun _ _ _ _ h => h⟩
theorem zxg : ∀ {ts os : z0r} {b : Nat} {o' : Obj'}, (fitS ts os)[b]? = some (some o') → ∃ o, os[b]? = some (some o) ∧ (o' = o ∨ ∃ t, fitO t (some o) = some o')
 | [], os, b, o', h => ⟨o', by simpa [fitS] using h, .inl rfl⟩
 | t :: ts, [], b, o', h => by simp [fitS] at h
 | t :: ts, o :: os, b + 1, o', h => by
  simp only [fitS, List.getElem?_cons_succ] at h
  obtain ⟨x, h1, h2⟩ := zxg h
  exact ⟨x, by simpa using h1, h2⟩
 | t :: ts, o :: os, 0, o', h => by
  simp only [fitS, List.getElem?_cons_zero, Option.some.injEq] at h
  cases o with
  | none =>
   unfold fitO at h
   split at h <;> simp_all
  | some o => exact ⟨o, rfl, .inr ⟨t, h⟩⟩
theorem z05u {s t : Sx} : Weak G s ⟨s.n, s.m, fitE s.env t.env, fitS t.st s.st⟩ := by
 refine zrt (fun u xs h => zrw h) (zts _ _) (fun b o' h => ?_)
 obtain ⟨o, h1, rfl | ⟨t', h2⟩⟩ := zxg h
 ·exact ⟨o', h1, rfl, fun h => h, fun _ _ _ h => h⟩
 ·obtain ⟨h3, h4, h5⟩ := z037 h2
  exact ⟨o, h1, h3, h4, fun η J w h => h5 η J w b h⟩

/-! ### Rows that must be plain, or that must be made, or that must lie elsewhere -/
def frB : BV → BV → List Nat
 | .pv _, .row b => [b]
 | _, _ => []
def mvB : BV → BV → List (Nat × Nat)
 | .row k, .row b => if k = b then [] else [(b, k)]
 | _, _ => []
def zxh {β : Type} (f : BV → BV → List β) : List BV → List BV → List β
 | t :: ts, x :: xs => f t x ++ zxh f ts xs
 | _, _ => []
def z01g {β : Type} (f : BV → BV → List β) : List XV → List XV → List β
 | t :: ts, x :: xs => (match t, x with
  | .c a, .c b => f a b
  | .agg a, .agg b => zxh f a b
  | _, _ => []) ++ z01g f ts xs
 | _, _ => []
def z01h {β : Type} (f : BV → BV → List β) (env : List (Nat × List XV)) : List (Nat × List XV) → List β
 | [] => []
 | (t, tx) :: r => (match lk env t with
  | some xs => z01g f tx xs
  | none => []) ++ z01h f env r
def z01i {β : Type} (f : BV → BV → List β) : z0r → z0r → List β
 | t :: ts, o :: os => (match t, o with
  | some (.box _ _ a), some (.box _ _ b) => zxh f a b
  | _, _ => []) ++ z01i f ts os
 | _, _ => []
def z05v {β : Type} (f : BV → BV → List β) (t s : Sx) : List β := z01h f s.env t.env ++ z01i f t.st s.st
def ghD (g : Gh) (s : Sx) : Sx := match gh g s with
 | some s' => s'
 | none => s
theorem z05w (g : Gh) (s : Sx) : Weak G s (ghD g s) := by
 unfold ghD
 split
 ·rename_i h; exact z05p h
 ·exact Weak.refl _
def ghs : List Gh → Sx → Sx
 | [], s => s
 | g :: l, s => ghs l (ghD g s)
theorem zxi : ∀ (l : List Gh) (s : Sx), Weak G s (ghs l s)
 | [], s => Weak.refl _
 | g :: l, s => (z05w g s).trans (zxi l _)
/-- Empty slices that must be rows. -/
def rowE (t : Sx) (k : Nat) : Option (Nat × Nat) := match t.st[k]? with
 | some (some (.row _ _ E sz _)) => some (E, sz)
 | _ => none
def z038 (t : Sx) (env : List (Nat × List XV)) : List (Nat × List XV) → List Gh
 | [] => []
 | (u, [.c (.row k)]) :: r => (match lk env u, rowE t k with
  | some [.c .emp], some (E, sz) => [.lt u E sz]
  | _, _ => []) ++ z038 t env r
 | _ :: r => z038 t env r
def z039 (t : Sx) (b : Nat) : Nat → List BV → List BV → List Gh
 | i, .row k :: ts, .emp :: xs => (match rowE t k with
  | some (E, sz) => [.lc b i E sz]
  | none => []) ++ z039 t b (i + 1) ts xs
 | i, _ :: ts, _ :: xs => z039 t b (i + 1) ts xs
 | _, _, _ => []
def z05x (t : Sx) : Nat → z0r → z0r → List Gh
 | b, x :: ts, o :: os => (match x, o with
  | some (.box _ _ a), some (.box _ _ c) => z039 t b 0 a c
  | _, _ => []) ++ z05x t (b + 1) ts os
 | _, _, _ => []
/-- Objects that aren't wanted. -/
def z05y (b : Nat) (s : Sx) : Sx := ⟨s.n, s.m, s.env, s.st.set b none⟩
def unwanted (t : Sx) (mv : List (Nat × Nat)) : Nat → z0r → List Nat
 | _, [] => []
 | b, none :: r => unwanted t mv (b + 1) r
 | b, some _ :: r => (match t.st[b]? with
  | some (some _) => if mv.any (fun p => p.2 == b) && !(mv.any (fun p => p.1 == b)) then [b] else []
  | _ => if mv.any (fun p => p.1 == b) then [] else [b]) ++ unwanted t mv (b + 1) r
def zrx : List Nat → Sx → Sx
 | [], s => s
 | b :: l, s => zrx l (z05y b s)
theorem zoh : ∀ (l : List Nat) (s : Sx), Weak G s (zrx l s)
 | [], s => Weak.refl _
 | b :: l, s => (zwf b).trans (zoh l _)
def mvAt (p : Nat × Nat) (s : Sx) : Sx := match s.st[p.1]?, s.st[p.2]? with
 | some (some o), some none => if decide (s.m ≤ p.2) || !(o.map (mv p.1 p.2)).chd.same then ⟨s.n, s.m, z6m (mv p.1 p.2) s.env, ((zb0 (mv p.1 p.2) s.st).set p.1 none).set p.2 (some (o.map (mv p.1 p.2)).chd)⟩ else s
 | _, _ => s
theorem z03a (p : Nat × Nat) (s : Sx) : Weak G s (mvAt p s) := by
 unfold mvAt
 split
 ·rename_i o h1 h2
  split
  ·rename_i h
   have h : s.m ≤ p.2 ∨ (o.map (mv p.1 p.2)).chd.same = false := by
    simp only [Bool.or_eq_true, decide_eq_true_eq, Bool.not_eq_true'] at h; exact h
   exact zwt p.1 p.2 h1 h2 h
  ·exact Weak.refl _
 ·exact Weak.refl _
def z03b : List (Nat × Nat) → Sx → Sx
 | [], s => s
 | p :: l, s => z03b l (mvAt p s)
theorem ztt : ∀ (l : List (Nat × Nat)) (s : Sx), Weak G s (z03b l s)
 | [], s => Weak.refl _
 | p :: l, s => (z03a p s).trans (ztt l _)
def z03c (k : Nat) (s : Sx) : Sx := if decide (s.m ≤ k) && decide (k ≤ s.st.length) then (if k = s.st.length then s else ⟨s.n, s.m, z6m (cut k) s.env, (zb0 (cut k) s.st).take k⟩) else s
theorem z001 (k : Nat) (s : Sx) : Weak G s (z03c k s) := by
 unfold z03c
 split
 ·rename_i h
  simp only [Bool.and_eq_true, decide_eq_true_eq] at h
  split
  ·exact Weak.refl _
  ·exact zz9 k (by simpa using h.1) h.2
 ·exact Weak.refl _
def padN : Nat → Sx → Sx
 | 0, s => s
 | k + 1, s => padN k ⟨s.n, s.m, s.env, s.st ++ [none]⟩
theorem zxj : ∀ (k : Nat) (s : Sx), Weak G s (padN k s)
 | 0, s => Weak.refl _
 | k + 1, s => zzp.trans (zxj k _)
def nubN : List Nat → List Nat
 | [] => []
 | a :: l => if l.contains a then nubN l else a :: nubN l
/-- The state s as t is told. -/
def fit (t s : Sx) : Sx :=
 let s0 : Sx := ⟨s.n, s.m, zfv (t.env.map Prod.fst) s.env, s.st⟩
 let s1 := ghs (z038 t s0.env t.env ++ z05x t 0 t.st s0.st) s0
 let s2 := ghs ((nubN (z05v frB t s1)).map .fz) s1
 let mvs := z05v mvB t s2
 let s3 := zrx (unwanted t mvs 0 s2.st) s2
 let s4 := padN (t.st.length - s3.st.length) s3
 let s5 := z03b mvs s4
 let s6 := z03c t.st.length s5
 ⟨s6.n, s6.m, fitE s6.env t.env, fitS t.st s6.st⟩
theorem zqf (t s : Sx) : Weak G s (fit t s) := by
 unfold fit
 exact (zos (s := s) fun u xs h => (zi3 h).2).trans ((zxi _ _).trans ((zxi _ _).trans ((zoh _ _).trans ((zxj _ _).trans ((ztt _ _).trans ((z001 _ _).trans z05u))))))
end
end Go.Proofs.YtgmbfjcidiedfaaGreatDoor.Abs
