/- The statements' own trees, read off a row's data, with what they weigh. -/
import Derived.Test.YtaaihamelknhdaaDoorAbsB
import Derived.Test.YtaaihamelknhdaaDoorGwF
import Derived.Test.YtaaihamelknhdaaDoorCvQ
namespace Go.Proofs.YtaaihamelknhdaaDoor.Abs.Wri
open Go Go.RowKit
set_option linter.unusedVariables false
set_option linter.unusedSimpArgs false
theorem in64_of {n : Int} (h : InK .i64 n) : in64 n := by
  have h1 := h.lo
  have h2 := h.hi
  simp [IntKind.min, IntKind.max, IntKind.signed, IntKind.bits] at h1 h2
  exact ⟨by omega, by omega⟩
mutual
def mE : r02_Expr → Nat
  | ⟨_, _, s, l⟩ => s.size + mEs l + 4
def mEs : List r02_Expr → Nat
  | [] => 0
  | e :: r => mE e + mEs r
end
mutual
def rgE : r02_Expr → Prop
  | ⟨_, n, _, l⟩ => in64 n ∧ rgEs l
def rgEs : List r02_Expr → Prop
  | [] => True
  | e :: r => rgE e ∧ rgEs r
end
theorem mEs_sum : ∀ l, mEs l = sumM mE l
  | [] => rfl
  | e :: r => by simp only [mEs, sumM, mEs_sum r]
theorem rgEs_of : ∀ {l : List r02_Expr}, (∀ x ∈ l, rgE x) → rgEs l
  | [], _ => trivial
  | e :: r, h => ⟨h e List.mem_cons_self, rgEs_of fun x hx => h x (List.mem_cons_of_mem _ hx)⟩
mutual
theorem okE_of : ∀ (e : r02_Expr), rgE e → mE e ≤ 4194304 → okE (cE e) ∧ szE (cE e) ≤ mE e
  | ⟨k, n, s, l⟩, h, hm => by
    simp only [rgE] at h
    simp only [mE] at hm ⊢
    have := okEs_of l h.2 (by omega)
    simp only [cE, okE, szE]
    exact ⟨⟨h.1, by omega, this.1⟩, by omega⟩
theorem okEs_of : ∀ (l : List r02_Expr), rgEs l → mEs l ≤ 4194304 → okEs (cEs l) ∧ szEs (cEs l) ≤ mEs l
  | [], _, _ => ⟨trivial, Nat.le_refl _⟩
  | e :: r, h, hm => by
    simp only [rgEs] at h
    simp only [mEs] at hm ⊢
    have h1 := okE_of e h.1 (by omega)
    have h2 := okEs_of r h.2 (by omega)
    simp only [cEs, okEs, szEs]
    exact ⟨⟨h1.1, h2.1⟩, by omega⟩
end
mutual
def mS : r02_Stmt → Nat
  | .mk _ n t e c b l a => n.size + t.size + mE e + (mE c.L + mE c.R) + mL b + mL l + mA a + 8
def mL : List r02_Stmt → Nat
  | [] => 0
  | s :: r => mS s + mL r
def mA : List r02_Arm → Nat
  | [] => 0
  | .mk t v b :: r => (t.size + v.size + mL b + 3) + mA r
end
def mAr (x : r02_Arm) : Nat := x.Tag.size + x.Var.size + mL x.Body + 3
mutual
def rgS : r02_Stmt → Prop
  | .mk _ _ _ e c b l a => rgE e ∧ rgE c.L ∧ rgE c.R ∧ rgL b ∧ rgL l ∧ rgA a
def rgL : List r02_Stmt → Prop
  | [] => True
  | s :: r => rgS s ∧ rgL r
def rgA : List r02_Arm → Prop
  | [] => True
  | .mk _ _ b :: r => rgL b ∧ rgA r
end
def rgAr (x : r02_Arm) : Prop := rgL x.Body
theorem mL_sum : ∀ l, mL l = sumM mS l
  | [] => by simp only [mL, sumM]
  | e :: r => by simp only [mL, sumM, mL_sum r]
theorem mA_sum : ∀ l, mA l = sumM mAr l
  | [] => by simp only [mA, sumM]
  | .mk t v b :: r => by simp only [mA, sumM, mA_sum r]; rfl
theorem rgL_of : ∀ {l : List r02_Stmt}, (∀ x ∈ l, rgS x) → rgL l
  | [], _ => by simp only [rgL]
  | e :: r, h => by simp only [rgL]; exact ⟨h e List.mem_cons_self, rgL_of fun x hx => h x (List.mem_cons_of_mem _ hx)⟩
theorem rgA_of : ∀ {l : List r02_Arm}, (∀ x ∈ l, rgAr x) → rgA l
  | [], _ => by simp only [rgA]
  | .mk t v b :: r, h => by simp only [rgA]; exact ⟨h (.mk t v b) List.mem_cons_self, rgA_of fun x hx => h x (List.mem_cons_of_mem _ hx)⟩
mutual
theorem okS_of : ∀ (s : r02_Stmt), rgS s → mS s ≤ 4194304 → okS (cS s) ∧ szS (cS s) ≤ mS s
  | .mk k n t e c b l a, h, hm => by
    simp only [rgS] at h
    simp only [mS] at hm ⊢
    have h1 := okE_of e h.1 (by omega)
    have h2 := okE_of c.L h.2.1 (by omega)
    have h3 := okE_of c.R h.2.2.1 (by omega)
    have h4 := okL_of b h.2.2.2.1 (by omega)
    have h5 := okL_of l h.2.2.2.2.1 (by omega)
    have h6 := okA_of a h.2.2.2.2.2 (by omega)
    have hz : szC (cC c) = 1 + szE (cE c.L) + szE (cE c.R) := rfl
    simp only [cS, okS, szS, hz]
    exact ⟨⟨by omega, by omega, h1.1, ⟨h2.1, h3.1⟩, h4.1, h5.1, h6.1⟩, by omega⟩
theorem okL_of : ∀ (l : List r02_Stmt), rgL l → mL l ≤ 4194304 → okL (cL l) ∧ szL (cL l) ≤ mL l + 1
  | [], _, _ => by simp only [cL, okL, szL, mL, true_and]; omega
  | s :: r, h, hm => by
    simp only [rgL] at h
    simp only [mL] at hm ⊢
    have h1 := okS_of s h.1 (by omega)
    have h2 := okL_of r h.2 (by omega)
    simp only [cL, okL, szL]
    exact ⟨⟨h1.1, h2.1⟩, by omega⟩
theorem okA_of : ∀ (l : List r02_Arm), rgA l → mA l ≤ 4194304 → okA (cA l) ∧ szA (cA l) ≤ mA l + 1
  | [], _, _ => by simp only [cA, okA, szA, mA, true_and]; omega
  | .mk t v b :: r, h, hm => by
    simp only [rgA] at h
    simp only [mA] at hm ⊢
    have h1 := okL_of b h.1 (by omega)
    have h2 := okA_of r h.2 (by omega)
    simp only [cA, okA, szA]
    exact ⟨⟨by omega, by omega, h1.1, h2.1⟩, by omega⟩
end
/-! ### Off the data -/
section
variable {H : Type} {enc : TypeId × Value → H} {w : World}
theorem decB_sl {T E : TypeId} {τ : Type} {e : τ → List PV} {ok : τ → Prop} {m : τ → Nat} {sz : Nat} {P : Program} (hu : P.underlying T = some (.slice E)) (hsz : P.cellsOf E = sz) (hpos : 0 < sz) (hlen : ∀ x, (e x).length = sz) {fuel : Nat} (hE : ∀ f, f < fuel → DecB P enc w f E e ok m) :
    DecB P enc w fuel T (fun l : List τ => [.sl (l.map e)]) (fun l => (∀ x ∈ l, ok x) ∧ l.length ≤ maxLen) (fun l => sumM m l + 1) := by
  cases fuel with
  | zero => exact decB0
  | succ f => exact decB_slice hu hsz hpos hlen (hE f (Nat.lt_succ_self f))
theorem decB_E : ∀ fuel, DecB Tryd.prog enc w fuel 25 e_r02_Expr rgE mE := by
  intro fuel
  induction fuel using Nat.strongRecOn with
  | _ fuel ih =>
    cases fuel with
    | zero => exact decB0
    | succ f =>
      refine decB_struct (N := 4) (fun x : Int × Int × ByteArray × List r02_Expr × Unit => r02_Expr.mk x.1 x.2.1 x.2.2.1 x.2.2.2.1) Tryd.underlying25 (by kernel_rfl)
        (segB_cons (sz := 1) rfl (by kernel_rfl) (decB_int Tryd.underlying3 f) (segB_cons (sz := 1) rfl (by kernel_rfl) (decB_int Tryd.underlying3 f) (segB_cons (sz := 1) rfl (by kernel_rfl) (decB_str Tryd.underlying9 f)
          (segB_cons (sz := 1) rfl (by kernel_rfl) (decB_sl Tryd.underlying23 (by kernel_rfl) (by decide) e_r02_Expr_len fun g hg => ih g (by omega)) (segB_nil (by decide))))))
        (fun x => by rw [e_r02_Expr_eq]; rfl) (fun x h => ⟨in64_of h.2.1, rgEs_of h.2.2.2.1.1⟩) (fun x => ?_)
      show x.2.2.1.size + mEs x.2.2.2.1 + 4 ≤ 1 + (1 + (x.2.2.1.size + 1 + (sumM mE x.2.2.2.1 + 1 + 0))) + 1
      rw [mEs_sum]; omega
theorem decB_C (fuel : Nat) : DecB Tryd.prog enc w fuel 27 e_r02_Cond (fun c => rgE c.L ∧ rgE c.R) (fun c => mE c.L + mE c.R + 2) := by
  cases fuel with
  | zero => exact decB0
  | succ f =>
    refine decB_struct (N := 9) (fun x : Int × r02_Expr × r02_Expr × Unit => r02_Cond.mk x.1 x.2.1 x.2.2.1) Tryd.underlying27 (by kernel_rfl)
      (segB_cons (sz := 1) rfl (by kernel_rfl) (decB_int Tryd.underlying3 f) (segB_cons (sz := 4) rfl (by kernel_rfl) (decB_E f) (segB_cons (sz := 4) rfl (by kernel_rfl) (decB_E f) (segB_nil (by decide)))))
      (fun x => by simp only [e_r02_Expr_eq]; rfl) (fun x h => ⟨h.2.1, h.2.2.1⟩) (fun x => ?_)
    show mE x.2.1 + mE x.2.2.1 + 2 ≤ 1 + (mE x.2.1 + (mE x.2.2.1 + 0)) + 1
    omega
theorem decB_S : ∀ fuel, DecB Tryd.prog enc w fuel 31 e_r02_Stmt rgS mS := by
  intro fuel
  induction fuel using Nat.strongRecOn with
  | _ fuel ih =>
    cases fuel with
    | zero => exact decB0
    | succ f =>
      have hL : ∀ g, g ≤ f → DecB Tryd.prog enc w g 28 (fun l : List r02_Stmt => [.sl (l.map e_r02_Stmt)]) (fun l => (∀ x ∈ l, rgS x) ∧ l.length ≤ maxLen) (fun l => sumM mS l + 1) := fun g hg =>
        decB_sl Tryd.underlying28 (by kernel_rfl) (by decide) e_r02_Stmt_len fun g' hg' => ih g' (by omega)
      have hA : ∀ g, g ≤ f → DecB Tryd.prog enc w g 64 e_r02_Arm rgAr mAr := fun g hg => by
        cases g with
        | zero => exact decB0
        | succ g =>
          refine decB_struct (N := 3) (fun x : ByteArray × ByteArray × List r02_Stmt × Unit => r02_Arm.mk x.1 x.2.1 x.2.2.1) Tryd.underlying64 (by kernel_rfl)
            (segB_cons (sz := 1) rfl (by kernel_rfl) (decB_str Tryd.underlying9 g) (segB_cons (sz := 1) rfl (by kernel_rfl) (decB_str Tryd.underlying9 g) (segB_cons (sz := 1) rfl (by kernel_rfl) (hL g (by omega)) (segB_nil (by decide)))))
            (fun x => by rw [e_r02_Arm_eq]; rfl) (fun x h => rgL_of h.2.2.1.1) (fun x => ?_)
          show x.1.size + x.2.1.size + mL x.2.2.1 + 3 ≤ x.1.size + 1 + (x.2.1.size + 1 + (sumM mS x.2.2.1 + 1 + 0)) + 1
          rw [mL_sum]; omega
      refine decB_struct (N := 19) (fun x : Int × ByteArray × ByteArray × r02_Expr × r02_Cond × List r02_Stmt × List r02_Stmt × List r02_Arm × Unit => r02_Stmt.mk x.1 x.2.1 x.2.2.1 x.2.2.2.1 x.2.2.2.2.1 x.2.2.2.2.2.1 x.2.2.2.2.2.2.1 x.2.2.2.2.2.2.2.1) Tryd.underlying31 (by kernel_rfl)
        (segB_cons (sz := 1) rfl (by kernel_rfl) (decB_int Tryd.underlying3 f) (segB_cons (sz := 1) rfl (by kernel_rfl) (decB_str Tryd.underlying9 f) (segB_cons (sz := 1) rfl (by kernel_rfl) (decB_str Tryd.underlying9 f)
          (segB_cons (sz := 4) rfl (by kernel_rfl) (decB_E f) (segB_cons (sz := 9) rfl (by kernel_rfl) (decB_C f) (segB_cons (sz := 1) rfl (by kernel_rfl) (hL f (Nat.le_refl f)) (segB_cons (sz := 1) rfl (by kernel_rfl) (hL f (Nat.le_refl f))
            (segB_cons (sz := 1) rfl (by kernel_rfl) (decB_sl Tryd.underlying29 (by kernel_rfl) (by decide) e_r02_Arm_len fun g hg => hA g (by omega)) (segB_nil (by decide))))))))))
        (fun x => by rw [e_r02_Stmt_eq]; simp only [e_r02_Expr_eq, e_r02_Cond]; rfl) (fun x h => ?_) (fun x => ?_)
      · simp only [rgS]
        exact ⟨h.2.2.2.1, h.2.2.2.2.1.1, h.2.2.2.2.1.2, rgL_of h.2.2.2.2.2.1.1, rgL_of h.2.2.2.2.2.2.1.1, rgA_of h.2.2.2.2.2.2.2.1.1⟩
      · simp only [mS, mL_sum, mA_sum]; omega
theorem decB_L (fuel : Nat) : DecB Tryd.prog enc w fuel 28 (fun l : List r02_Stmt => [.sl (l.map e_r02_Stmt)]) (fun l => (∀ x ∈ l, rgS x) ∧ l.length ≤ maxLen) (fun l => sumM mS l + 1) :=
  decB_sl Tryd.underlying28 (by kernel_rfl) (by decide) e_r02_Stmt_len fun g hg => decB_S g
end
theorem rgL_take {l : List r02_Stmt} (n : Nat) (h : ∀ x ∈ l, rgS x) : rgL (l.take n) := rgL_of fun x hx => h x (List.mem_of_mem_take hx)
theorem mL_take : ∀ (l : List r02_Stmt) (n : Nat), mL (l.take n) ≤ mL l
  | [], n => by simp
  | s :: r, 0 => by simp [mL]
  | s :: r, n + 1 => by have := mL_take r n; simp only [List.take_succ_cons, mL]; omega
end Go.Proofs.YtaaihamelknhdaaDoor.Abs.Wri
