/- The statements' own systems, turned to the program's. -/
import Derived.Test.YtaaihamelknhdaaDoorWrQ
namespace Go.Proofs.YtaaihamelknhdaaDoor.Abs.Wri
open Go Go.RowKit
set_option linter.unusedVariables false
set_option linter.unusedSimpArgs false
theorem maploop {β γ O : Type} {body : Int × List γ → Option (Sum (Int × List γ) (Sum O (List γ)))} {n H : Nat} (f : β → γ) (a1 : List β) (hlen : a1.length ≤ 400000000000)
    (hs : ∀ (i : Nat) x acc, i < a1.length → idx a1 (i : Int) = some x → x ∈ a1 → acc.length = i → IntKind.i64.wrap ((i : Int) + 1) = ((i + 1 : Nat) : Int) → Sn n H (body ((i : Int), acc)) (.inl (((i + 1 : Nat) : Int), acc ++ [f x])))
    (he : ∀ acc, body ((a1.length : Int), acc) = some (.inr (.inr acc))) :
    ∀ (l : List β) (i : Nat) (acc : List γ), a1.drop i = l → i ≤ a1.length → acc.length = i → Sn n H (iter body ((i : Int), acc)) (.inr (acc ++ l.map f)) := by
  intro l
  induction l with
  | nil =>
    intro i acc hd hi ha
    have : i = a1.length := by have := List.drop_eq_nil_iff.1 hd; omega
    subst this
    exact .inl (by rw [iter_out (he acc)]; simp)
  | cons s r ih =>
    intro i acc hd hi ha
    have hlt : i < a1.length := by
      refine Nat.lt_of_not_le fun h => ?_
      rw [List.drop_of_length_le h] at hd; cases hd
    rw [List.drop_eq_getElem_cons hlt] at hd
    injection hd with h1 h2
    have hi2 : idx a1 (i : Int) = some s := by rw [idx_ok hlt, h1]
    have hw : IntKind.i64.wrap ((i : Int) + 1) = ((i + 1 : Nat) : Int) := by rw [w64 (by omega) (by omega)]; omega
    have hm : s ∈ a1 := by rw [← h1]; exact List.getElem_mem hlt
    have h3 := hs i s acc hlt hi2 hm ha hw
    have h4 := ih (i + 1) (acc ++ [f s]) h2 hlt (by simp; omega)
    rw [iter_eq]
    refine Sn.bind h3 ?_
    simpa using h4
theorem maploop0 {β γ O : Type} {body : Int × List γ → Option (Sum (Int × List γ) (Sum O (List γ)))} {n H : Nat} (f : β → γ) (a1 : List β) (hlen : a1.length ≤ 400000000000)
    (hs : ∀ (i : Nat) x acc, i < a1.length → idx a1 (i : Int) = some x → x ∈ a1 → acc.length = i → IntKind.i64.wrap ((i : Int) + 1) = ((i + 1 : Nat) : Int) → Sn n H (body ((i : Int), acc)) (.inl (((i + 1 : Nat) : Int), acc ++ [f x])))
    (he : ∀ acc, body ((a1.length : Int), acc) = some (.inr (.inr acc))) : Sn n H (iter body (0, [])) (.inr (a1.map f)) := by
  have := maploop f a1 hlen hs he a1 0 [] rfl (by omega) rfl
  simpa using this
theorem maploop_f {β γ O : Type} {body : Int × List γ → Option (Sum (Int × List γ) (Sum O (List γ)))} (f : β → γ) (a1 : List β) (hlen : a1.length ≤ 400000000000)
    (hs : ∀ (i : Nat) x acc, i < a1.length → idx a1 (i : Int) = some x → x ∈ a1 → acc.length = i → IntKind.i64.wrap ((i : Int) + 1) = ((i + 1 : Nat) : Int) → body ((i : Int), acc) = some (.inl (((i + 1 : Nat) : Int), acc ++ [f x])))
    (he : ∀ acc, body ((a1.length : Int), acc) = some (.inr (.inr acc))) : iter body (0, []) = some (.inr (a1.map f)) := by
  rcases maploop0 (n := 0) (H := 0) f a1 hlen (fun i x acc h1 h2 h3 h4 h5 => .inl (hs i x acc h1 h2 h3 h4 h5)) he with h | ⟨_, h⟩
  · exact h
  · omega
/-! ### Expressions -/
mutual
def cE : r02_Expr → ast_Expr
  | ⟨k, n, s, l⟩ => ⟨k, n, s, cEs l⟩
def cEs : List r02_Expr → List ast_Expr
  | [] => []
  | e :: r => cE e :: cEs r
end
theorem cEs_map : ∀ l, cEs l = l.map cE
  | [] => rfl
  | e :: r => by simp only [cEs, List.map_cons, cEs_map r]
theorem szE_pos (e : ast_Expr) : 1 ≤ szE e := by cases e; simp only [szE]; omega
theorem szEs_mem : ∀ {l : List r02_Expr} {x : r02_Expr}, x ∈ l → szE (cE x) ≤ szEs (cEs l)
  | y :: r, x, h => by
    rcases List.mem_cons.1 h with rfl | h
    · simp only [cEs, szEs]; omega
    · have := szEs_mem h; simp only [cEs, szEs]; omega
theorem szEs_len : ∀ l : List r02_Expr, l.length ≤ szEs (cEs l)
  | [] => by simp
  | e :: r => by have := szEs_len r; have := szE_pos (cE e); simp only [cEs, szEs, List.length_cons]; omega
theorem cvE : ∀ (N : Nat) (e : r02_Expr), szE (cE e) ≤ N → N ≤ 400000000000 → ∀ n, Sn n (szE (cE e)) (l02_ExprN n e) (cE e) := by
  intro N
  induction N with
  | zero => intro e he; have := szE_pos (cE e); omega
  | succ N ih =>
    intro e he hN n
    obtain ⟨k, m, s, l⟩ := e
    simp only [cE, szE] at he ⊢
    cases n with
    | zero => exact .inr ⟨rfl, by omega⟩
    | succ n =>
      have hl := szEs_len l
      have h := maploop0 (n := n) (H := szEs (cEs l)) (body := l02_Expr_l1 (l02_ExprN n) ⟨k, m, s, l⟩) cE l (by omega)
        (fun i x acc hi hx hm ha hw => by
          unfold l02_Expr_l1
          rw [if_pos (by simpa using hi)]
          simp only [hx, Option.bind_eq_bind, Option.bind_some, hw]
          have hz := szEs_mem hm
          refine Sn.bind (f := _) ((ih x (by omega) (by omega) n).mono hz) (.inl ?_)
          rw [app_ok (by simp; omega)]
          rfl)
        (fun acc => by unfold l02_Expr_l1; rw [if_neg (by simp)])
      have t2 := (Sn.bind (f := Sum.elim (fun _ => none) (fun j1 => some (ast_Expr.mk k m s j1))) h (.inl (by rw [← cEs_map]; rfl : _ = some (ast_Expr.mk k m s (cEs l))))).up
      exact t2.mono (by omega)
theorem expr_cv {e : r02_Expr} (h : szE (cE e) ≤ 400000000000) : l02_Expr e = some (cE e) := Sn.unf fun n => cvE _ e (Nat.le_refl _) h n
def cC (c : r02_Cond) : ast_Cond := ⟨c.Op, cE c.L, cE c.R⟩
theorem cond_cv {c : r02_Cond} (h : szC (cC c) ≤ 400000000000) : l02_Cond c = some (cC c) := by
  unfold szC cC at h
  simp only at h
  unfold l02_Cond
  rw [expr_cv (e := c.L) (by omega), expr_cv (e := c.R) (by omega)]
  rfl
/-! ### Statements -/
mutual
def cS : r02_Stmt → ast_Stmt
  | .mk k n t e c b l a => .mk k n t (cE e) (cC c) (cL b) (cL l) (cA a)
def cL : List r02_Stmt → List ast_Stmt
  | [] => []
  | s :: r => cS s :: cL r
def cA : List r02_Arm → List ast_Arm
  | [] => []
  | .mk t v b :: r => .mk t v (cL b) :: cA r
end
def cArm (x : r02_Arm) : ast_Arm := .mk x.Tag x.Var (cL x.Body)
theorem cL_map : ∀ l, cL l = l.map cS
  | [] => rfl
  | e :: r => by simp only [cL, List.map_cons, cL_map r]
theorem cA_map : ∀ l, cA l = l.map cArm
  | [] => rfl
  | .mk t v b :: r => by simp only [cA, List.map_cons, cA_map r]; rfl
theorem cL_mem : ∀ {l : List r02_Stmt} {x : r02_Stmt}, x ∈ l → szS (cS x) + 1 ≤ szL (cL l)
  | y :: r, x, h => by
    have := szL_pos (cL r)
    rcases List.mem_cons.1 h with rfl | h
    · simp only [cL, szL]; omega
    · have := cL_mem h; simp only [cL, szL]; omega
theorem cA_mem : ∀ {l : List r02_Arm} {x : r02_Arm}, x ∈ l → szL (cL x.Body) ≤ szA (cA l)
  | .mk t v b :: r, x, h => by
    rcases List.mem_cons.1 h with rfl | h
    · simp only [cA, szA]; show szL (cL b) ≤ _; omega
    · have := cA_mem h; simp only [cA, szA]; omega
theorem cL_len : ∀ l : List r02_Stmt, l.length ≤ szL (cL l) := fun l => by
  have := len_szL (cL l)
  rw [cL_map, List.length_map] at this
  rw [cL_map]; exact this
theorem cA_len : ∀ l : List r02_Arm, l.length ≤ szA (cA l) := fun l => by
  have := len_szA (cA l)
  rw [cA_map, List.length_map] at this
  rw [cA_map]; exact this
theorem cvL : ∀ (N : Nat) (l : List r02_Stmt), szL (cL l) ≤ N → N ≤ 400000000000 → ∀ n, Sn n (szL (cL l)) (l02_StmtsN n l) (cL l) := by
  intro N
  induction N with
  | zero => intro l hl; have := szL_pos (cL l); omega
  | succ N ih =>
    intro l hl hN n
    cases n with
    | zero => exact .inr ⟨rfl, szL_pos _⟩
    | succ n =>
      have hll := cL_len l
      have hp := szL_pos (cL l)
      have h := maploop0 (n := n) (H := szL (cL l) - 1) (body := l02_Stmts_l1 (l02_StmtsN n) l) cS l (by omega)
        (fun i x acc hi hx hm ha hw => by
          obtain ⟨k, nm, tg, e, c, bo, el, ar⟩ := x
          have hz := cL_mem hm
          simp only [cS, szS] at hz
          have p1 := szL_pos (cL bo)
          have p2 := szL_pos (cL el)
          have p3 := szA_pos (cA ar)
          unfold l02_Stmts_l1
          rw [if_pos (by simpa using hi)]
          simp only [hx, Option.bind_eq_bind, Option.bind_some, hw]
          dsimp only [r02_Stmt.Kind, r02_Stmt.Name, r02_Stmt.Tag, r02_Stmt.E, r02_Stmt.C, r02_Stmt.Body, r02_Stmt.Else, r02_Stmt.Arms]
          rw [expr_cv (e := e) (by omega), cond_cv (c := c) (by omega)]
          simp only [Option.bind_some]
          have har := maploop0 (n := n) (H := szL (cL l) - 1) (body := l02_Stmts_l2 (l02_StmtsN n) (.mk k nm tg e c bo el ar)) cArm ar (by have := cA_len ar; omega)
            (fun i x acc hi hx hm ha hw => by
              unfold l02_Stmts_l2
              rw [if_pos (by show decide ((i : Int) < (ar.length : Int)) = true; simpa using hi)]
              dsimp only [r02_Stmt.Arms]
              simp only [hx, Option.bind_eq_bind, Option.bind_some, hw]
              have hz := cA_mem hm
              refine Sn.bind (f := _) ((ih x.Body (by omega) (by omega) n).mono (by omega)) (.inl ?_)
              have := cA_len ar
              rw [app_ok (by simp; omega)]
              rfl)
            (fun acc => by unfold l02_Stmts_l2; rw [if_neg (by simp [r02_Stmt.Arms])])
          have kb := (ih bo (by omega) (by omega) n).mono (by omega : _ ≤ szL (cL l) - 1)
          have ke := (ih el (by omega) (by omega) n).mono (by omega : _ ≤ szL (cL l) - 1)
          have fin : ∀ v9, Sn n (szL (cL l) - 1) ((app 288 acc [v9]).bind fun v9 => some (Sum.inl (((i + 1 : Nat) : Int), v9)) : Option (Sum (Int × List ast_Stmt) (Sum (List ast_Stmt) (List ast_Stmt)))) (.inl (((i + 1 : Nat) : Int), acc ++ [v9])) := fun v9 => .inl (by rw [app_ok (by simp; omega)]; rfl)
          refine Sn.bind (f := _) kb (Sn.bind (f := _) ke (Sn.bind (f := _) har ?_))
          have := fin (.mk k nm tg (cE e) (cC c) (cL bo) (cL el) (ar.map cArm))
          rw [← cA_map] at this
          simp only [cS]
          rw [← cA_map]
          exact this)
        (fun acc => by unfold l02_Stmts_l1; rw [if_neg (by simp)])
      have t2 := (Sn.bind (f := Sum.elim (fun _ => none) (fun j1 => some j1)) h (.inl (by rw [← cL_map]; rfl : _ = some (cL l)))).up
      exact t2.mono (by omega)
theorem stmts_cv {l : List r02_Stmt} (h : szL (cL l) ≤ 400000000000) : l02_Stmts l = some (cL l) := Sn.unf fun n => cvL _ l (Nat.le_refl _) h n
end Go.Proofs.YtaaihamelknhdaaDoor.Abs.Wri
/- The statements' own systems, turned to the program's; the text that each Ast law asks for. -/
namespace Go.Proofs.YtaaihamelknhdaaDoor.Abs.Wri
open Go Go.RowKit
set_option linter.unusedVariables false
set_option linter.unusedSimpArgs false
def cCh (c : r02_Chan) : ast_Chan := ⟨c.Name, c.Kind, c.Size, c.From, c.To, c.Tags⟩
def cMo (m : r02_Move) : ast_Move := ⟨m.From, m.Tag, m.To⟩
def cRu (r : r02_Rule) : ast_Rule := ⟨r.Chan, r.Moves.map cMo⟩
def cPr (p : r02_Proc) : ast_Proc := ⟨p.Name, p.Vars, cL p.Body⟩
def cSys (s : r02_System) : ast_System := ⟨s.Chans.map cCh, s.Rules.map cRu, s.Procs.map cPr⟩
theorem sumN_map {β γ : Type} (c : γ → Nat) (f : β → γ) : ∀ l : List β, sumN c (l.map f) = sumN (fun x => c (f x)) l
  | [] => rfl
  | x :: r => by simp only [List.map_cons, sumN, sumN_map c f r]
theorem sys_cv {s : r02_System} (h : szSys (cSys s) ≤ 400000000000) : l02_System s = some (cSys s) := by
  unfold szSys cSys at h
  simp only [sumN_map] at h
  have n1 := sumN_len (c := fun x => szCh (cCh x)) (fun x => by unfold szCh; omega) s.Chans
  have n2 := sumN_len (c := fun x => szR (cRu x)) (fun x => by unfold szR; omega) s.Rules
  have n3 := sumN_len (c := fun x => szP (cPr x)) (fun x => by unfold szP; omega) s.Procs
  unfold l02_System
  rw [maploop_f (body := l02_System_l1 s) cCh s.Chans (by omega) (fun i x acc hi hx hm ha hw => by
      unfold l02_System_l1
      rw [if_pos (by simpa using hi)]
      simp only [hx, Option.bind_eq_bind, Option.bind_some, hw]
      have hz := sumN_mem (c := fun x => szCh (cCh x)) hm
      have hz2 : szCh (cCh x) = 3 + x.Tags.length := rfl
      rw [app_ok (by simp; omega)]
      simp only [Option.bind_some, List.nil_append]
      rw [app_ok (by simp; omega)]
      rfl) (fun acc => by unfold l02_System_l1; rw [if_neg (by simp)])]
  simp only [Option.bind_eq_bind, Option.bind_some, Sum.elim_inr]
  rw [maploop_f (body := l02_System_l2 s) cRu s.Rules (by omega) (fun i x acc hi hx hm ha hw => by
      unfold l02_System_l2
      rw [if_pos (by simpa using hi)]
      simp only [hx, Option.bind_eq_bind, Option.bind_some, hw]
      have hz := sumN_mem (c := fun x => szR (cRu x)) hm
      have hz2 : szR (cRu x) = 1 + (x.Moves.map cMo).length := rfl
      rw [List.length_map] at hz2
      rw [maploop_f (body := l02_System_l3 s ((i : Int), acc)) cMo x.Moves (by omega) (fun j y ac hj hy hym hya hw => by
        unfold l02_System_l3
        simp only [hx, Option.bind_eq_bind, Option.bind_some]
        rw [if_pos (by simpa using hj)]
        simp only [hy, Option.bind_eq_bind, Option.bind_some, hw]
        rw [app_ok (by simp; omega)]
        rfl) (fun ac => by unfold l02_System_l3; simp only [hx, Option.bind_eq_bind, Option.bind_some]; rw [if_neg (by simp)])]
      simp only [Option.bind_some, Sum.elim_inr]
      rw [app_ok (by simp; omega)]
      rfl) (fun acc => by unfold l02_System_l2; rw [if_neg (by simp)])]
  simp only [Option.bind_some, Sum.elim_inr]
  rw [maploop_f (body := l02_System_l4 s) cPr s.Procs (by omega) (fun i x acc hi hx hm ha hw => by
      unfold l02_System_l4
      rw [if_pos (by simpa using hi)]
      simp only [hx, Option.bind_eq_bind, Option.bind_some, hw]
      have hz := sumN_mem (c := fun x => szP (cPr x)) hm
      have hz2 : szP (cPr x) = 1 + x.Vars.length + szL (cL x.Body) := rfl
      rw [app_ok (by simp; omega)]
      simp only [Option.bind_some, List.nil_append]
      rw [stmts_cv (by omega)]
      simp only [Option.bind_some]
      rw [app_ok (by simp; omega)]
      rfl) (fun acc => by unfold l02_System_l4; rw [if_neg (by simp)])]
  rfl
/-! ### One letter is a name -/
theorem name_letter {b : UInt8} (h : isL b = true) : nameOk ⟨#[b]⟩ = true := by
  have hA : isA b = true := by simp [isA, h]
  have hr : runL [b] = 1 := by rw [runL_cons, if_pos hA]; rfl
  have hres : ¬ ([b] : Bs) ∈ resv := by
    intro hm
    unfold resv at hm
    simp at hm
  have hw : word1 [b] = .ok ⟨1, 1, 0⟩ := by
    rw [word1_cons, if_pos h, hr, if_neg (by omega), if_neg (by simpa using hres)]
  have hB : isB b = false := by
    unfold isL at h
    simp only [Bool.and_eq_true, decide_eq_true_eq] at h
    unfold isB
    rw [Bool.or_eq_false_iff]
    constructor
    · refine beq_eq_false_iff_ne.2 ?_
      rintro rfl
      exact absurd h.1 (by decide)
    · refine beq_eq_false_iff_ne.2 ?_
      rintro rfl
      exact absurd h.1 (by decide)
  have hl : lexS [b] 0 = ([⟨1, [b], 0, 0⟩], none) := by
    rw [lexS_ok hB hw]
    simp [lexS_nil]
  unfold nameOk
  show (let v := finT 1 (lexS [b] 0); _) = true
  rw [hl]
  simp only [finT, told, List.length_singleton]
  rw [if_neg (by omega)]
  simp [tokT]
theorem itoa1 : itoaB 1 = ByteArray.mk #[49] := by kernel_rfl
theorem itoa2 : itoaB 2 = ByteArray.mk #[50] := by kernel_rfl
/-! ### The text -/
def theSys : r02_System := (r02_System.mk [] [] [(r02_Proc.mk (ByteArray.mk #[112]) [] [(r02_Stmt.mk 1 (ByteArray.mk #[120]) (ByteArray.mk #[]) (r02_Expr.mk 6 0 (ByteArray.mk #[]) [(r02_Expr.mk 4 0 (ByteArray.mk #[]) [(r02_Expr.mk 2 0 (ByteArray.mk #[97]) []), (r02_Expr.mk 1 1 (ByteArray.mk #[]) [])]), (r02_Expr.mk 1 2 (ByteArray.mk #[]) [])]) (r02_Cond.mk 0 (r02_Expr.mk 0 0 (ByteArray.mk #[]) []) (r02_Expr.mk 0 0 (ByteArray.mk #[]) [])) [] [] [])])])
theorem theSys_words : endW (sSys (cSys theSys)) = ([ByteArray.mk #[112, 114, 111, 99], ByteArray.mk #[112], ByteArray.mk #[123], ByteArray.mk #[120], ByteArray.mk #[61], ByteArray.mk #[40], ByteArray.mk #[97], ByteArray.mk #[43], ByteArray.mk #[49], ByteArray.mk #[41], ByteArray.mk #[42], ByteArray.mk #[50], ByteArray.mk #[59], ByteArray.mk #[125]], 0) := by
  have h1 := name_letter (b := 112) (by decide)
  have h2 := name_letter (b := 120) (by decide)
  have h3 := name_letter (b := 97) (by decide)
  simp [theSys, cSys, cPr, cL, cS, cE, cEs, cC, cA, sSys, flatW, sP, sL, sS, sE, inP, wLeaf, wW, wN, wI, wM, wD, Wr.nil, endW, sumK, pairK, signW, h1, h2, h3, itoa1, itoa2, numOk]
theorem theSys_ok : okSys (cSys theSys) := by
  have z0 : (ByteArray.mk #[]).size ≤ 4194304 := by decide
  have z1 : (ByteArray.mk #[112]).size ≤ 4194304 := by decide
  have z2 : (ByteArray.mk #[120]).size ≤ 4194304 := by decide
  have z3 : (ByteArray.mk #[97]).size ≤ 4194304 := by decide
  simp only [theSys, cSys, cPr, cL, cS, cE, cEs, cC, cA, okSys, okP, okL, okS, okE, okEs, okC, okA, in64, List.map_nil, List.map_cons, List.mem_cons, List.not_mem_nil, or_false, forall_eq, z0, z1, z2, z3]
  simp
theorem theSys_sz : szSys (cSys theSys) ≤ 100 := by
  simp [theSys, cSys, cPr, cL, cS, cE, cEs, cC, cA, szSys, sumN, szP, szL, szS, szE, szEs, szC, szA]
theorem texts_f : l02_texts = some true := by
  unfold l02_texts
  show (l02_System theSys >>= _) = _
  rw [sys_cv (by have := theSys_sz; omega)]
  simp only [Option.bind_eq_bind, Option.bind_some]
  unfold ast_text
  rw [words_f theSys_ok (by have := theSys_sz; omega), theSys_words]
  simp only [Option.bind_eq_bind, Option.bind_some]
  rw [if_pos (by decide)]
  simp only [Option.bind_some, Go.ByteArray.toList_eq]
  rfl
end Go.Proofs.YtaaihamelknhdaaDoor.Abs.Wri
