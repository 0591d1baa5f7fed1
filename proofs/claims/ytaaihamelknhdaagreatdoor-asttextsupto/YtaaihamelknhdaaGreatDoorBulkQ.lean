/- The statements' own trees, read off a row's data, with what they weigh. -/
import Derived.Test.YtaaihamelknhdaaGreatDoorAbsB
import Derived.Test.YtaaihamelknhdaaGreatDoorGwF
import Derived.Test.YtaaihamelknhdaaGreatDoorPlA
import Derived.Test.YtaaihamelknhdaaGreatDoorRefQ
namespace Go.Proofs.YtaaihamelknhdaaGreatDoor.Abs.Wri
open Go Go.RowKit
set_option linter.unusedVariables false
set_option linter.unusedSimpArgs false
theorem in64_of {n : Int} (h : InK .i64 n) : in64 n := by
  have h1 := h.lo
  have h2 := h.hi
  simp [IntKind.min, IntKind.max, IntKind.signed, IntKind.bits] at h1 h2
  exact ⟨by omega, by omega⟩
mutual
def mE : r02_Expr → Nat
  | ⟨_, _, s, l⟩ => s.size + mEs l + 4
def mEs : List r02_Expr → Nat
  | [] => 0
  | e :: r => mE e + mEs r
end
mutual
def rgE : r02_Expr → Prop
  | ⟨_, n, _, l⟩ => in64 n ∧ rgEs l
def rgEs : List r02_Expr → Prop
  | [] => True
  | e :: r => rgE e ∧ rgEs r
end
theorem mEs_sum : ∀ l, mEs l = sumM mE l
  | [] => rfl
  | e :: r => by simp only [mEs, sumM, mEs_sum r]
theorem rgEs_of : ∀ {l : List r02_Expr}, (∀ x ∈ l, rgE x) → rgEs l
  | [], _ => trivial
  | e :: r, h => ⟨h e List.mem_cons_self, rgEs_of fun x hx => h x (List.mem_cons_of_mem _ hx)⟩
mutual
theorem okE_of : ∀ (e : r02_Expr), rgE e → mE e ≤ 4194304 → okE (cE e) ∧ szE (cE e) ≤ mE e
  | ⟨k, n, s, l⟩, h, hm => by
    simp only [rgE] at h
    simp only [mE] at hm ⊢
    have := okEs_of l h.2 (by omega)
    simp only [cE, okE, szE]
    exact ⟨⟨h.1, by omega, this.1⟩, by omega⟩
theorem okEs_of : ∀ (l : List r02_Expr), rgEs l → mEs l ≤ 4194304 → okEs (cEs l) ∧ szEs (cEs l) ≤ mEs l
  | [], _, _ => ⟨trivial, Nat.le_refl _⟩
  | e :: r, h, hm => by
    simp only [rgEs] at h
    simp only [mEs] at hm ⊢
    have h1 := okE_of e h.1 (by omega)
    have h2 := okEs_of r h.2 (by omega)
    simp only [cEs, okEs, szEs]
    exact ⟨⟨h1.1, h2.1⟩, by omega⟩
end
mutual
def mS : r02_Stmt → Nat
  | .mk _ n t e c b l a => n.size + t.size + mE e + (mE c.L + mE c.R) + mL b + mL l + mA a + 8
def mL : List r02_Stmt → Nat
  | [] => 0
  | s :: r => mS s + mL r
def mA : List r02_Arm → Nat
  | [] => 0
  | .mk t v b :: r => (t.size + v.size + mL b + 3) + mA r
end
def mAr (x : r02_Arm) : Nat := x.Tag.size + x.Var.size + mL x.Body + 3
mutual
def rgS : r02_Stmt → Prop
  | .mk _ _ _ e c b l a => rgE e ∧ rgE c.L ∧ rgE c.R ∧ rgL b ∧ rgL l ∧ rgA a
def rgL : List r02_Stmt → Prop
  | [] => True
  | s :: r => rgS s ∧ rgL r
def rgA : List r02_Arm → Prop
  | [] => True
  | .mk _ _ b :: r => rgL b ∧ rgA r
end
def rgAr (x : r02_Arm) : Prop := rgL x.Body
theorem mL_sum : ∀ l, mL l = sumM mS l
  | [] => by simp only [mL, sumM]
  | e :: r => by simp only [mL, sumM, mL_sum r]
theorem mA_sum : ∀ l, mA l = sumM mAr l
  | [] => by simp only [mA, sumM]
  | .mk t v b :: r => by simp only [mA, sumM, mA_sum r]; rfl
theorem rgL_of : ∀ {l : List r02_Stmt}, (∀ x ∈ l, rgS x) → rgL l
  | [], _ => by simp only [rgL]
  | e :: r, h => by simp only [rgL]; exact ⟨h e List.mem_cons_self, rgL_of fun x hx => h x (List.mem_cons_of_mem _ hx)⟩
theorem rgA_of : ∀ {l : List r02_Arm}, (∀ x ∈ l, rgAr x) → rgA l
  | [], _ => by simp only [rgA]
  | .mk t v b :: r, h => by simp only [rgA]; exact ⟨h (.mk t v b) List.mem_cons_self, rgA_of fun x hx => h x (List.mem_cons_of_mem _ hx)⟩
mutual
theorem okS_of : ∀ (s : r02_Stmt), rgS s → mS s ≤ 4194304 → okS (cS s) ∧ szS (cS s) ≤ mS s
  | .mk k n t e c b l a, h, hm => by
    simp only [rgS] at h
    simp only [mS] at hm ⊢
    have h1 := okE_of e h.1 (by omega)
    have h2 := okE_of c.L h.2.1 (by omega)
    have h3 := okE_of c.R h.2.2.1 (by omega)
    have h4 := okL_of b h.2.2.2.1 (by omega)
    have h5 := okL_of l h.2.2.2.2.1 (by omega)
    have h6 := okA_of a h.2.2.2.2.2 (by omega)
    have hz : szC (cC c) = 1 + szE (cE c.L) + szE (cE c.R) := rfl
    simp only [cS, okS, szS, hz]
    exact ⟨⟨by omega, by omega, h1.1, ⟨h2.1, h3.1⟩, h4.1, h5.1, h6.1⟩, by omega⟩
theorem okL_of : ∀ (l : List r02_Stmt), rgL l → mL l ≤ 4194304 → okL (cL l) ∧ szL (cL l) ≤ mL l + 1
  | [], _, _ => by simp only [cL, okL, szL, mL, true_and]; omega
  | s :: r, h, hm => by
    simp only [rgL] at h
    simp only [mL] at hm ⊢
    have h1 := okS_of s h.1 (by omega)
    have h2 := okL_of r h.2 (by omega)
    simp only [cL, okL, szL]
    exact ⟨⟨h1.1, h2.1⟩, by omega⟩
theorem okA_of : ∀ (l : List r02_Arm), rgA l → mA l ≤ 4194304 → okA (cA l) ∧ szA (cA l) ≤ mA l + 1
  | [], _, _ => by simp only [cA, okA, szA, mA, true_and]; omega
  | .mk t v b :: r, h, hm => by
    simp only [rgA] at h
    simp only [mA] at hm ⊢
    have h1 := okL_of b h.1 (by omega)
    have h2 := okA_of r h.2 (by omega)
    simp only [cA, okA, szA]
    exact ⟨⟨by omega, by omega, h1.1, h2.1⟩, by omega⟩
end
/-! ### Off the data -/
section
variable {H : Type} {enc : TypeId × Value → H} {w : World}
theorem decB_sl {T E : TypeId} {τ : Type} {e : τ → List PV} {ok : τ → Prop} {m : τ → Nat} {sz : Nat} {P : Program} (hu : P.underlying T = some (.slice E)) (hsz : P.cellsOf E = sz) (hpos : 0 < sz) (hlen : ∀ x, (e x).length = sz) {fuel : Nat} (hE : ∀ f, f < fuel → DecB P enc w f E e ok m) :
    DecB P enc w fuel T (fun l : List τ => [.sl (l.map e)]) (fun l => (∀ x ∈ l, ok x) ∧ l.length ≤ maxLen) (fun l => sumM m l + 1) := by
  cases fuel with
  | zero => exact decB0
  | succ f => exact decB_slice hu hsz hpos hlen (hE f (Nat.lt_succ_self f))
theorem decB_E : ∀ fuel, DecB Tryz.prog enc w fuel 24 e_r02_Expr rgE mE := by
  intro fuel
  induction fuel using Nat.strongRecOn with
  | _ fuel ih =>
    cases fuel with
    | zero => exact decB0
    | succ f =>
      refine decB_struct (N := 4) (fun x : Int × Int × ByteArray × List r02_Expr × Unit => r02_Expr.mk x.1 x.2.1 x.2.2.1 x.2.2.2.1) Tryz.underlying24 (by kernel_rfl)
        (segB_cons (sz := 1) rfl (by kernel_rfl) (decB_int Tryz.underlying3 f) (segB_cons (sz := 1) rfl (by kernel_rfl) (decB_int Tryz.underlying3 f) (segB_cons (sz := 1) rfl (by kernel_rfl) (decB_str Tryz.underlying9 f)
          (segB_cons (sz := 1) rfl (by kernel_rfl) (decB_sl Tryz.underlying22 (by kernel_rfl) (by decide) e_r02_Expr_len fun g hg => ih g (by omega)) (segB_nil (by decide))))))
        (fun x => by rw [e_r02_Expr_eq]; rfl) (fun x h => ⟨in64_of h.2.1, rgEs_of h.2.2.2.1.1⟩) (fun x => ?_)
      show x.2.2.1.size + mEs x.2.2.2.1 + 4 ≤ 1 + (1 + (x.2.2.1.size + 1 + (sumM mE x.2.2.2.1 + 1 + 0))) + 1
      rw [mEs_sum]; omega
theorem decB_C (fuel : Nat) : DecB Tryz.prog enc w fuel 26 e_r02_Cond (fun c => rgE c.L ∧ rgE c.R) (fun c => mE c.L + mE c.R + 2) := by
  cases fuel with
  | zero => exact decB0
  | succ f =>
    refine decB_struct (N := 9) (fun x : Int × r02_Expr × r02_Expr × Unit => r02_Cond.mk x.1 x.2.1 x.2.2.1) Tryz.underlying26 (by kernel_rfl)
      (segB_cons (sz := 1) rfl (by kernel_rfl) (decB_int Tryz.underlying3 f) (segB_cons (sz := 4) rfl (by kernel_rfl) (decB_E f) (segB_cons (sz := 4) rfl (by kernel_rfl) (decB_E f) (segB_nil (by decide)))))
      (fun x => by simp only [e_r02_Expr_eq]; rfl) (fun x h => ⟨h.2.1, h.2.2.1⟩) (fun x => ?_)
    show mE x.2.1 + mE x.2.2.1 + 2 ≤ 1 + (mE x.2.1 + (mE x.2.2.1 + 0)) + 1
    omega
theorem decB_S : ∀ fuel, DecB Tryz.prog enc w fuel 30 e_r02_Stmt rgS mS := by
  intro fuel
  induction fuel using Nat.strongRecOn with
  | _ fuel ih =>
    cases fuel with
    | zero => exact decB0
    | succ f =>
      have hL : ∀ g, g ≤ f → DecB Tryz.prog enc w g 27 (fun l : List r02_Stmt => [.sl (l.map e_r02_Stmt)]) (fun l => (∀ x ∈ l, rgS x) ∧ l.length ≤ maxLen) (fun l => sumM mS l + 1) := fun g hg =>
        decB_sl Tryz.underlying27 (by kernel_rfl) (by decide) e_r02_Stmt_len fun g' hg' => ih g' (by omega)
      have hA : ∀ g, g ≤ f → DecB Tryz.prog enc w g 117 e_r02_Arm rgAr mAr := fun g hg => by
        cases g with
        | zero => exact decB0
        | succ g =>
          refine decB_struct (N := 3) (fun x : ByteArray × ByteArray × List r02_Stmt × Unit => r02_Arm.mk x.1 x.2.1 x.2.2.1) Tryz.underlying117 (by kernel_rfl)
            (segB_cons (sz := 1) rfl (by kernel_rfl) (decB_str Tryz.underlying9 g) (segB_cons (sz := 1) rfl (by kernel_rfl) (decB_str Tryz.underlying9 g) (segB_cons (sz := 1) rfl (by kernel_rfl) (hL g (by omega)) (segB_nil (by decide)))))
            (fun x => by rw [e_r02_Arm_eq]; rfl) (fun x h => rgL_of h.2.2.1.1) (fun x => ?_)
          show x.1.size + x.2.1.size + mL x.2.2.1 + 3 ≤ x.1.size + 1 + (x.2.1.size + 1 + (sumM mS x.2.2.1 + 1 + 0)) + 1
          rw [mL_sum]; omega
      refine decB_struct (N := 19) (fun x : Int × ByteArray × ByteArray × r02_Expr × r02_Cond × List r02_Stmt × List r02_Stmt × List r02_Arm × Unit => r02_Stmt.mk x.1 x.2.1 x.2.2.1 x.2.2.2.1 x.2.2.2.2.1 x.2.2.2.2.2.1 x.2.2.2.2.2.2.1 x.2.2.2.2.2.2.2.1) Tryz.underlying30 (by kernel_rfl)
        (segB_cons (sz := 1) rfl (by kernel_rfl) (decB_int Tryz.underlying3 f) (segB_cons (sz := 1) rfl (by kernel_rfl) (decB_str Tryz.underlying9 f) (segB_cons (sz := 1) rfl (by kernel_rfl) (decB_str Tryz.underlying9 f)
          (segB_cons (sz := 4) rfl (by kernel_rfl) (decB_E f) (segB_cons (sz := 9) rfl (by kernel_rfl) (decB_C f) (segB_cons (sz := 1) rfl (by kernel_rfl) (hL f (Nat.le_refl f)) (segB_cons (sz := 1) rfl (by kernel_rfl) (hL f (Nat.le_refl f))
            (segB_cons (sz := 1) rfl (by kernel_rfl) (decB_sl Tryz.underlying28 (by kernel_rfl) (by decide) e_r02_Arm_len fun g hg => hA g (by omega)) (segB_nil (by decide))))))))))
        (fun x => by rw [e_r02_Stmt_eq]; simp only [e_r02_Expr_eq, e_r02_Cond]; rfl) (fun x h => ?_) (fun x => ?_)
      · simp only [rgS]
        exact ⟨h.2.2.2.1, h.2.2.2.2.1.1, h.2.2.2.2.1.2, rgL_of h.2.2.2.2.2.1.1, rgL_of h.2.2.2.2.2.2.1.1, rgA_of h.2.2.2.2.2.2.2.1.1⟩
      · simp only [mS, mL_sum, mA_sum]; omega
theorem decB_L (fuel : Nat) : DecB Tryz.prog enc w fuel 27 (fun l : List r02_Stmt => [.sl (l.map e_r02_Stmt)]) (fun l => (∀ x ∈ l, rgS x) ∧ l.length ≤ maxLen) (fun l => sumM mS l + 1) :=
  decB_sl Tryz.underlying27 (by kernel_rfl) (by decide) e_r02_Stmt_len fun g hg => decB_S g
end
theorem rgL_take {l : List r02_Stmt} (n : Nat) (h : ∀ x ∈ l, rgS x) : rgL (l.take n) := rgL_of fun x hx => h x (List.mem_of_mem_take hx)
theorem mL_take : ∀ (l : List r02_Stmt) (n : Nat), mL (l.take n) ≤ mL l
  | [], n => by simp
  | s :: r, 0 => by simp [mL]
  | s :: r, n + 1 => by have := mL_take r n; simp only [List.take_succ_cons, mL]; omega
end Go.Proofs.YtaaihamelknhdaaGreatDoor.Abs.Wri
/- The statements' own systems, read off a row's data, with what they weigh; AstExprs, AstTexts by it. -/
namespace Go.Proofs.YtaaihamelknhdaaGreatDoor.Abs.Wri
open Go Go.RowKit
set_option linter.unusedVariables false
set_option linter.unusedSimpArgs false
theorem sumM_mem {β : Type} {m : β → Nat} : ∀ {l : List β} {x : β}, x ∈ l → m x ≤ sumM m l
  | y :: r, x, h => by
    rcases List.mem_cons.1 h with rfl | h
    · simp only [sumM]; omega
    · have := sumM_mem (m := m) h; simp only [sumM]; omega
theorem sumM_len {β : Type} {m : β → Nat} (h : ∀ x, 1 ≤ m x) : ∀ l : List β, l.length ≤ sumM m l
  | [] => by simp
  | x :: r => by have := sumM_len h r; have := h x; simp only [sumM, List.length_cons]; omega
def mT (s : ByteArray) : Nat := s.size + 1
theorem mT_mem {l : List ByteArray} {x : ByteArray} (h : x ∈ l) : x.size + 1 ≤ sumM mT l := sumM_mem (m := mT) h
theorem mT_len (l : List ByteArray) : l.length ≤ sumM mT l := sumM_len (fun x => by unfold mT; omega) l
def mCh (c : r02_Chan) : Nat := c.Name.size + c.From.size + c.To.size + sumM mT c.Tags + 6
def mMo (m : r02_Move) : Nat := m.Tag.size + 3
def mRu (r : r02_Rule) : Nat := r.Chan.size + sumM mMo r.Moves + 2
def mPr (p : r02_Proc) : Nat := p.Name.size + sumM mT p.Vars + mL p.Body + 3
def mSys (s : r02_System) : Nat := sumM mCh s.Chans + sumM mRu s.Rules + sumM mPr s.Procs + 3
def rgMo (m : r02_Move) : Prop := in64 m.From ∧ in64 m.To
def rgSys (s : r02_System) : Prop := (∀ c ∈ s.Chans, in64 c.Size) ∧ (∀ r ∈ s.Rules, ∀ m ∈ r.Moves, rgMo m) ∧ (∀ p ∈ s.Procs, rgL p.Body)
theorem sumN_sumM {β : Type} {c m : β → Nat} : ∀ {l : List β}, (∀ x ∈ l, c x ≤ m x) → sumN c l ≤ sumM m l
  | [], _ => Nat.le_refl _
  | x :: r, h => by
    have h1 := h x List.mem_cons_self
    have h2 := sumN_sumM (l := r) fun y hy => h y (List.mem_cons_of_mem _ hy)
    simp only [sumN, sumM]; omega
theorem okSys_of {s : r02_System} (h : rgSys s) (hm : mSys s ≤ 1048576) : okSys (cSys s) ∧ szSys (cSys s) ≤ 2000000 := by
  obtain ⟨h1, h2, h3⟩ := h
  unfold mSys at hm
  have c1 : ∀ c ∈ s.Chans, mCh c ≤ 1048576 := fun c hc => by have := sumM_mem (m := mCh) hc; omega
  have c2 : ∀ c ∈ s.Rules, mRu c ≤ 1048576 := fun c hc => by have := sumM_mem (m := mRu) hc; omega
  have c3 : ∀ c ∈ s.Procs, mPr c ≤ 1048576 := fun c hc => by have := sumM_mem (m := mPr) hc; omega
  have k3 : ∀ p ∈ s.Procs, okL (cL p.Body) ∧ szL (cL p.Body) ≤ mL p.Body + 1 := fun p hp => okL_of p.Body (h3 p hp) (by have := c3 p hp; unfold mPr at this; omega)
  refine ⟨⟨?_, ?_, ?_⟩, ?_⟩
  · intro c hc
    obtain ⟨x, hx, rfl⟩ := List.mem_map.1 hc
    have := c1 x hx
    unfold mCh at this
    refine ⟨?_, ?_, ?_, h1 x hx, fun t ht => ?_⟩
    · show x.Name.size ≤ _; omega
    · show x.From.size ≤ _; omega
    · show x.To.size ≤ _; omega
    · have h7 := mT_mem (l := x.Tags) ht; omega
  · intro c hc
    obtain ⟨x, hx, rfl⟩ := List.mem_map.1 hc
    have := c2 x hx
    unfold mRu at this
    refine ⟨?_, fun m hm => ?_⟩
    · show x.Chan.size ≤ _; omega
    · obtain ⟨y, hy, rfl⟩ := List.mem_map.1 hm
      have h4 := h2 x hx y hy
      have h5 := sumM_mem (m := mMo) hy
      have h6 : mMo y = y.Tag.size + 3 := rfl
      refine ⟨h4.1, ?_, h4.2⟩
      show y.Tag.size ≤ _; omega
  · intro c hc
    obtain ⟨x, hx, rfl⟩ := List.mem_map.1 hc
    have := c3 x hx
    unfold mPr at this
    refine ⟨?_, fun v hv => ?_, (k3 x hx).1⟩
    · show x.Name.size ≤ _; omega
    · have h7 := mT_mem (l := x.Vars) hv; omega
  · unfold szSys
    simp only [cSys]
    rw [sumN_map, sumN_map, sumN_map]
    have s1 : sumN (fun x => szCh (cCh x)) s.Chans ≤ sumM mCh s.Chans := sumN_sumM fun x hx => by
      have := mT_len x.Tags
      show 3 + x.Tags.length ≤ _
      unfold mCh; omega
    have s2 : sumN (fun x => szR (cRu x)) s.Rules ≤ sumM mRu s.Rules := sumN_sumM fun x hx => by
      have := sumM_len (m := mMo) (fun x => by unfold mMo; omega) x.Moves
      show 1 + (x.Moves.map cMo).length ≤ _
      rw [List.length_map]
      unfold mRu; omega
    have s3 : sumN (fun x => szP (cPr x)) s.Procs ≤ sumM mPr s.Procs := sumN_sumM fun x hx => by
      have := mT_len x.Vars
      have := (k3 x hx).2
      show 1 + x.Vars.length + szL (cL x.Body) ≤ _
      unfold mPr; omega
    omega
section
variable {H : Type} {enc : TypeId × Value → H} {w : World}
theorem decB_strs (fuel : Nat) : DecB Tryz.prog enc w fuel 31 (fun l : List ByteArray => [.sl (l.map e_str)]) (fun l => (∀ x ∈ l, x.size ≤ maxLen) ∧ l.length ≤ maxLen) (fun l => sumM mT l + 1) :=
  decB_sl (e := e_str) (ok := fun s => s.size ≤ maxLen) (m := mT) Tryz.underlying31 (by kernel_rfl) (by decide) (fun _ => rfl) fun g hg => decB_str Tryz.underlying9 g
theorem decB_Ch (fuel : Nat) : DecB Tryz.prog enc w fuel 69 e_r02_Chan (fun c => in64 c.Size) mCh := by
  cases fuel with
  | zero => exact decB0
  | succ f =>
    refine decB_struct (N := 6) (fun x : ByteArray × Int × Int × ByteArray × ByteArray × List ByteArray × Unit => r02_Chan.mk x.1 x.2.1 x.2.2.1 x.2.2.2.1 x.2.2.2.2.1 x.2.2.2.2.2.1) Tryz.underlying69 (by kernel_rfl)
      (segB_cons (sz := 1) rfl (by kernel_rfl) (decB_str Tryz.underlying9 f) (segB_cons (sz := 1) rfl (by kernel_rfl) (decB_int Tryz.underlying3 f) (segB_cons (sz := 1) rfl (by kernel_rfl) (decB_int Tryz.underlying3 f)
        (segB_cons (sz := 1) rfl (by kernel_rfl) (decB_str Tryz.underlying9 f) (segB_cons (sz := 1) rfl (by kernel_rfl) (decB_str Tryz.underlying9 f) (segB_cons (sz := 1) rfl (by kernel_rfl) (decB_strs f) (segB_nil (by decide))))))))
      (fun x => rfl) (fun x h => in64_of h.2.2.1) (fun x => ?_)
    show x.1.size + x.2.2.2.1.size + x.2.2.2.2.1.size + sumM mT x.2.2.2.2.2.1 + 6 ≤ x.1.size + 1 + (1 + (1 + (x.2.2.2.1.size + 1 + (x.2.2.2.2.1.size + 1 + (sumM mT x.2.2.2.2.2.1 + 1 + 0))))) + 1
    omega
theorem decB_Mo (fuel : Nat) : DecB Tryz.prog enc w fuel 74 e_r02_Move rgMo mMo := by
  cases fuel with
  | zero => exact decB0
  | succ f =>
    refine decB_struct (N := 3) (fun x : Int × ByteArray × Int × Unit => r02_Move.mk x.1 x.2.1 x.2.2.1) Tryz.underlying74 (by kernel_rfl)
      (segB_cons (sz := 1) rfl (by kernel_rfl) (decB_int Tryz.underlying3 f) (segB_cons (sz := 1) rfl (by kernel_rfl) (decB_str Tryz.underlying9 f) (segB_cons (sz := 1) rfl (by kernel_rfl) (decB_int Tryz.underlying3 f) (segB_nil (by decide)))))
      (fun x => rfl) (fun x h => ⟨in64_of h.1, in64_of h.2.2.1⟩) (fun x => ?_)
    show x.2.1.size + 3 ≤ 1 + (x.2.1.size + 1 + (1 + 0)) + 1
    omega
theorem decB_Ru (fuel : Nat) : DecB Tryz.prog enc w fuel 72 e_r02_Rule (fun r => ∀ m ∈ r.Moves, rgMo m) mRu := by
  cases fuel with
  | zero => exact decB0
  | succ f =>
    refine decB_struct (N := 2) (fun x : ByteArray × List r02_Move × Unit => r02_Rule.mk x.1 x.2.1) Tryz.underlying72 (by kernel_rfl)
      (segB_cons (sz := 1) rfl (by kernel_rfl) (decB_str Tryz.underlying9 f) (segB_cons (sz := 1) rfl (by kernel_rfl) (decB_sl (e := e_r02_Move) (sz := 3) Tryz.underlying70 (by kernel_rfl) (by decide) (fun _ => rfl) fun g hg => decB_Mo g) (segB_nil (by decide))))
      (fun x => rfl) (fun x h => h.2.1.1) (fun x => ?_)
    show x.1.size + sumM mMo x.2.1 + 2 ≤ x.1.size + 1 + (sumM mMo x.2.1 + 1 + 0) + 1
    omega
theorem decB_Pr (fuel : Nat) : DecB Tryz.prog enc w fuel 33 e_r02_Proc (fun p => rgL p.Body) mPr := by
  cases fuel with
  | zero => exact decB0
  | succ f =>
    refine decB_struct (N := 3) (fun x : ByteArray × List ByteArray × List r02_Stmt × Unit => r02_Proc.mk x.1 x.2.1 x.2.2.1) Tryz.underlying33 (by kernel_rfl)
      (segB_cons (sz := 1) rfl (by kernel_rfl) (decB_str Tryz.underlying9 f) (segB_cons (sz := 1) rfl (by kernel_rfl) (decB_strs f) (segB_cons (sz := 1) rfl (by kernel_rfl) (decB_L f) (segB_nil (by decide)))))
      (fun x => rfl) (fun x h => rgL_of h.2.2.1.1) (fun x => ?_)
    show x.1.size + sumM mT x.2.1 + mL x.2.2.1 + 3 ≤ x.1.size + 1 + (sumM mT x.2.1 + 1 + (sumM mS x.2.2.1 + 1 + 0)) + 1
    rw [mL_sum]; omega
theorem decB_Sys (fuel : Nat) : DecB Tryz.prog enc w fuel 38 e_r02_System rgSys mSys := by
  cases fuel with
  | zero => exact decB0
  | succ f =>
    refine decB_struct (N := 3) (fun x : List r02_Chan × List r02_Rule × List r02_Proc × Unit => r02_System.mk x.1 x.2.1 x.2.2.1) Tryz.underlying38 (by kernel_rfl)
      (segB_cons (sz := 1) rfl (by kernel_rfl) (decB_sl (e := e_r02_Chan) (sz := 6) Tryz.underlying35 (by kernel_rfl) (by decide) (fun _ => rfl) fun g hg => decB_Ch g) (segB_cons (sz := 1) rfl (by kernel_rfl) (decB_sl (e := e_r02_Rule) (sz := 2) Tryz.underlying36 (by kernel_rfl) (by decide) (fun _ => rfl) fun g hg => decB_Ru g)
        (segB_cons (sz := 1) rfl (by kernel_rfl) (decB_sl (e := e_r02_Proc) (sz := 3) Tryz.underlying34 (by kernel_rfl) (by decide) (fun _ => rfl) fun g hg => decB_Pr g) (segB_nil (by decide)))))
      (fun x => rfl) (fun x h => ⟨h.1.1, h.2.1.1, h.2.2.1.1⟩) (fun x => ?_)
    show sumM mCh x.1 + sumM mRu x.2.1 + sumM mPr x.2.2.1 + 3 ≤ sumM mCh x.1 + 1 + (sumM mRu x.2.1 + 1 + (sumM mPr x.2.2.1 + 1 + 0)) + 1
    omega
end
theorem exprs_bulk {e : r02_Expr} (h : rgE e) (hm : mE e ≤ 1048576) : l02_AstExprs e = some true := by
  have := okE_of e h (by omega)
  exact exprs_law this.1 (by omega)
theorem texts_bulk {s : r02_System} (h : rgSys s) (hm : mSys s ≤ 1048576) : l02_AstTexts s = some true := by
  have := okSys_of h hm
  exact texts_law this.1 (by omega)
end Go.Proofs.YtaaihamelknhdaaGreatDoor.Abs.Wri
