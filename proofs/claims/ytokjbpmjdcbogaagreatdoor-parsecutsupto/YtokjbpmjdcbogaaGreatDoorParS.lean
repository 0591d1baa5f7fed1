/- Words that may be written are short. -/
import Derived.Test.YtokjbpmjdcbogaaGreatDoorParT
import Derived.Test.YtokjbpmjdcbogaaGreatDoorPlB
import Derived.Test.YtokjbpmjdcbogaaGreatDoorAbsB
import Derived.Test.YtokjbpmjdcbogaaGreatDoorGwF
namespace Go.Proofs.YtokjbpmjdcbogaaGreatDoor.Abs.Par
open Go Go.RowKit Wri
set_option linter.unusedVariables false
set_option linter.unusedSimpArgs false
theorem zwp : ∀ n l p, ∀ t ∈ (lexF n l p).1, t.kind = 1 → t.text.length ≤ 12 := by
 intro n
 induction n with
 | zero => intro l p t ht; cases ht
 | succ n ih =>
  intro l p t ht hk
  cases l with
  | nil => cases ht
  | cons b r =>
   simp only [lexF] at ht
   split at ht
   ·exact ih _ _ t ht hk
   ·cases hw : zjs (b :: r) with
    | error e => rw [hw] at ht; cases ht
    | ok w =>
     rw [hw] at ht
     simp only [List.mem_cons] at ht
     rcases ht with rfl | ht
     ·have hk : w.kind = 1 := hk
      have h12 : w.len ≤ 12 := by
       rw [zkn] at hw
       split at hw
       ·split at hw
        ·cases hw
        ·injection hw with hw; subst hw; simp only at hk ⊢; omega
       ·split at hw
        ·split at hw
         ·injection hw with hw; subst hw; simp at hk
         ·cases hw
        ·split at hw
         ·cases hw
         ·injection hw with hw; subst hw; simp at hk
      simp only [List.length_take]; omega
     ·exact ih _ _ t ht hk
theorem zwq {s : ByteArray} (h : z3x s = true) : s.size ≤ 24 := by
 unfold z3x at h
 simp only [Bool.and_eq_true] at h
 obtain ⟨⟨h1, h2⟩, h3⟩ := h
 rw [zyn s.data.toList.length _ _ (Nat.le_refl _)] at h3
 have hs := zwp s.data.toList.length s.data.toList 0
 unfold finT at h3
 generalize lexF s.data.toList.length s.data.toList 0 = z at *
 split at h3
 ·rename_i t r he
  simp only [Bool.and_eq_true, beq_iff_eq] at h3
  obtain ⟨hk, ht⟩ := h3
  unfold told at he
  split at he
  ·cases he
  ·split at he
   ·cases he
   ·cases hz : z.1 with
    | nil => rw [hz] at he; cases he
    | cons t' r' =>
     rw [hz] at he
     injection he with he1 he2
     subst he1
     have h12 := hs t' (by rw [hz]; simp) hk
     have ht' : t'.text = s.data.toList := by
      have := ht
      rw [Go.ByteArray.toList_eq, Go.ByteArray.toList_eq, zr2] at this
      exact this
     have : s.size = s.data.toList.length := by cases s; simp [ByteArray.size]
     rw [this, ← ht']; omega
 ·cases h3
theorem zyo {n : Int} (h : zd1 n = true) : (zla n).size ≤ 24 := by
 unfold zd1 at h
 simp only [Bool.and_eq_true, decide_eq_true_eq] at h
 have := Lib.itoa_length_le n (by omega) (by omega)
 have e : (zla n).size = (Lib.itoa n).length := by unfold zla; simp [ByteArray.size]
 omega
end Go.Proofs.YtokjbpmjdcbogaaGreatDoor.Abs.Par
namespace Go.Proofs.YtokjbpmjdcbogaaGreatDoor.Abs.Wri
open Go Go.RowKit Par
def Sh (x : Wr) : Prop := x.bad = false → ∀ w ∈ x.ws, w.size ≤ 24
theorem Sh.app {x y : Wr} (hx : Sh x) (hy : Sh y) : Sh (x ++ y) := fun h w hw => by
 simp only [Wr.app_def, Bool.or_eq_false_iff] at h
 simp only [Wr.ws_app, List.mem_append] at hw
 rcases hw with hw | hw
 ·exact hx h.1 w hw
 ·exact hy h.2 w hw
theorem zg0 : Sh Wr.nil := fun _ w hw => by cases hw
theorem sh_M (b : Bool) : Sh (wM b) := fun _ w hw => by cases hw
theorem sh_D (b : Int) : Sh (wD b) := fun _ w hw => by cases hw
theorem sh_W {l : List ByteArray} (h : ∀ w ∈ l, w.size ≤ 24) : Sh (wW l) := fun _ w hw => h w hw
theorem sh_1 {w : ByteArray} (h : w.size ≤ 24) : Sh (wW [w]) := sh_W fun v hv => by simp at hv; subst hv; exact h
theorem sh_2 {w v : ByteArray} (h : w.size ≤ 24) (h' : v.size ≤ 24) : Sh (wW [w, v]) := sh_W fun x hv => by
 simp at hv; rcases hv with rfl | rfl
 ·exact h
 ·exact h'
theorem sh_N (s : ByteArray) : Sh (wN s) := fun h w hw => by
 simp only [wN, List.mem_singleton] at hw; subst hw
 simp only [wN, Bool.not_eq_false'] at h
 exact zwq h
theorem sh_I (n : Int) : Sh (wI n) := fun h w hw => by
 simp only [wI, List.mem_singleton] at hw; subst hw
 simp only [wI, Bool.not_eq_false'] at h
 exact zyo h
theorem sh_P {m : Bool} {f : Int → Wr} {p : Int} (h : ∀ q, Sh (f q)) : Sh (inP m f p) := by
 have h1 := h (p + 1)
 have h2 := h p
 unfold inP
 repeat' first
  | assumption | exact sh_D _ | exact sh_1 (by decide) | apply Sh.app | split
theorem sh_B {f : Int → Wr} {b : Int} (h : ∀ q, Sh (f q)) : Sh (inB f b) := by
 have h1 := h (b + 1)
 unfold inB
 repeat' first
  | assumption | exact sh_D _ | exact sh_1 (by decide) | apply Sh.app
theorem zp2 (e : z05) : Sh (zko e) := by
 unfold zko
 repeat' first
  | exact sh_M _ | exact sh_I _ | exact sh_N _ | apply Sh.app | split
theorem z8e (k : Int) : (z010 k).size ≤ 24 := by unfold z010; split <;> decide
theorem zbw (k : Int) : (opW k).size ≤ 24 := by unfold opW; split <;> decide
theorem z92 (k : Int) : (zwr k).size ≤ 24 := by unfold zwr; split <;> decide
theorem sh_E : ∀ (e : z05) (p : Int), Sh (sE e p)
 | ⟨k, n, s, []⟩, p => by simp only [sE]; exact zp2 _
 | ⟨k, n, s, [x]⟩, p => by
  simp only [sE]
  split
  ·exact Sh.app (sh_1 (by decide)) (Sh.app (sh_D _) (sh_P (sh_E x)))
  ·exact zp2 _
 | ⟨k, n, s, [l, r]⟩, p => by
  simp only [sE]
  split
  ·exact Sh.app (sh_P (sh_E l)) (Sh.app (sh_1 (z8e k)) (sh_P (sh_E r)))
  ·exact zp2 _
 | ⟨k, n, s, a :: b :: c :: l⟩, p => by simp only [sE]; exact zp2 _
theorem sh_C (c : z41) (p : Int) : Sh (sC c p) := by
 unfold sC
 repeat' first
  | assumption | exact sh_N _ | exact sh_I _ | exact sh_M _ | exact sh_D _ | exact zg0 | exact sh_E _ _ | exact sh_1 (z92 _) | exact sh_1 (z8e _) | exact sh_1 (zbw _) | exact sh_1 (by decide) | exact sh_2 (by decide) (by decide)
  | exact sh_P (sh_E _) | apply Sh.app | split
mutual
theorem sh_S : ∀ (s : z04) (b p : Int), Sh (sS s b p)
 | .mk k n t e c bo el ar, b, p => by
  have h3 : Sh (inB (fun q => sL bo q p) b) := sh_B fun q => sh_L bo q p
  have h4 : Sh (inB (fun q => sL el q p) b) := sh_B fun q => sh_L el q p
  have h5 := sh_A ar b p
  simp only [sS]
  repeat' first
   | assumption | exact sh_N _ | exact sh_I _ | exact sh_M _ | exact sh_D _ | exact zg0 | exact sh_E _ _ | exact sh_C _ _ | exact sh_1 (z92 _) | exact sh_1 (z8e _) | exact sh_1 (zbw _) | exact sh_1 (by decide) | exact sh_2 (by decide) (by decide)
   | exact sh_P (sh_E _) | apply Sh.app | split
theorem sh_L : ∀ (l : List z04) (b p : Int), Sh (sL l b p)
 | [], b, p => by simp only [sL]; exact zg0
 | s :: r, b, p => by simp only [sL]; exact Sh.app (sh_S s b p) (sh_L r b p)
theorem sh_A : ∀ (l : List z13) (b p : Int), Sh (sA l b p)
 | [], b, p => by simp only [sA]; exact zg0
 | .mk t v bo :: r, b, p => by
  have h3 : Sh (inB (fun q => sL bo q p) b) := sh_B fun q => sh_L bo q p
  simp only [sA]
  have h4 := sh_A r b p
  repeat' first
   | assumption | exact sh_N _ | exact sh_I _ | exact sh_M _ | exact sh_D _ | exact zg0 | exact sh_E _ _ | exact sh_C _ _ | exact sh_1 (z92 _) | exact sh_1 (z8e _) | exact sh_1 (zbw _) | exact sh_1 (by decide) | exact sh_2 (by decide) (by decide)
   | exact sh_P (sh_E _) | apply Sh.app | split
end
theorem ziz {β : Type} {g : Nat → β → Wr} (h : ∀ i x, Sh (g i x)) : ∀ (l : List β) (i : Nat), Sh (zbs g i l)
 | [], i => by simp only [zbs]; exact zg0
 | x :: r, i => by simp only [zbs]; exact Sh.app (h i x) (ziz h r (i + 1))
theorem z07o (i : Nat) (t : ByteArray) : Sh (wVar i t) := by
 unfold wVar
 repeat' first
  | assumption | exact sh_N _ | exact sh_I _ | exact sh_M _ | exact sh_D _ | exact zg0 | exact sh_E _ _ | exact sh_C _ _ | exact sh_1 (z92 _) | exact sh_1 (z8e _) | exact sh_1 (zbw _) | exact sh_1 (by decide) | exact sh_2 (by decide) (by decide)
  | exact sh_P (sh_E _) | apply Sh.app | split
theorem z0a0 (i : Nat) (t : z4h) : Sh (zmp i t) := by
 unfold zmp
 repeat' first
  | assumption | exact sh_N _ | exact sh_I _ | exact sh_M _ | exact sh_D _ | exact zg0 | exact sh_E _ _ | exact sh_C _ _ | exact sh_1 (z92 _) | exact sh_1 (z8e _) | exact sh_1 (zbw _) | exact sh_1 (by decide) | exact sh_2 (by decide) (by decide)
  | exact sh_P (sh_E _) | apply Sh.app | split
theorem z0a1 (p : z3f) : Sh (sP p) := by
 have h1 := ziz z07o p.Vars 0
 have h2 := sh_L p.Body 0 0
 unfold sP
 repeat' first
  | assumption | exact sh_N _ | exact sh_I _ | exact sh_M _ | exact sh_D _ | exact zg0 | exact sh_E _ _ | exact sh_C _ _ | exact sh_1 (z92 _) | exact sh_1 (z8e _) | exact sh_1 (zbw _) | exact sh_1 (by decide) | exact sh_2 (by decide) (by decide)
  | exact sh_P (sh_E _) | apply Sh.app | split
theorem z0a2 (r : z3b) : Sh (sR r) := by
 have h1 := ziz z0a0 r.Moves 0
 unfold sR
 repeat' first
  | assumption | exact sh_N _ | exact sh_I _ | exact sh_M _ | exact sh_D _ | exact zg0 | exact sh_E _ _ | exact sh_C _ _ | exact sh_1 (z92 _) | exact sh_1 (z8e _) | exact sh_1 (zbw _) | exact sh_1 (by decide) | exact sh_2 (by decide) (by decide)
  | exact sh_P (sh_E _) | apply Sh.app | split
theorem z07p (i : Nat) (t : ByteArray) : Sh (wTag i t) := by
 unfold wTag
 repeat' first
  | assumption | exact sh_N _ | exact sh_I _ | exact sh_M _ | exact sh_D _ | exact zg0 | exact sh_E _ _ | exact sh_C _ _ | exact sh_1 (z92 _) | exact sh_1 (z8e _) | exact sh_1 (zbw _) | exact sh_1 (by decide) | exact sh_2 (by decide) (by decide)
  | exact sh_P (sh_E _) | apply Sh.app | split
theorem z0a3 (c : z33) : Sh (sCh c) := by
 have h1 := ziz z07p c.Tags 0
 unfold sCh
 repeat' first
  | assumption | exact sh_N _ | exact sh_I _ | exact sh_M _ | exact sh_D _ | exact zg0 | exact sh_E _ _ | exact sh_C _ _ | exact sh_1 (z92 _) | exact sh_1 (z8e _) | exact sh_1 (zbw _) | exact sh_1 (by decide) | exact sh_2 (by decide) (by decide)
  | exact sh_P (sh_E _) | apply Sh.app | split
theorem z07q (s : z22) : Sh (sSys s) := by
 unfold sSys
 exact Sh.app (ziz (fun _ => z0a3) _ _) (Sh.app (ziz (fun _ => z0a2) _ _) (ziz (fun _ => z0a1) _ _))
end Go.Proofs.YtokjbpmjdcbogaaGreatDoor.Abs.Wri
/- The law ParseCuts in plain form. -/
namespace Go.Proofs.YtokjbpmjdcbogaaGreatDoor.Abs.Par
open Go Go.RowKit Wri
set_option linter.unusedVariables false
set_option linter.unusedSimpArgs false
theorem zyp {x : Wr} (h : (endW x).2 = 0) : x.bad = false ∧ x.ws.length ≤ 2000 ∧ endW x = (x.ws, 0) := by
 unfold endW at *
 split at h
 ·cases h
 ·split at h
  ·cases h
  ·split at h
   ·cases h
   ·rename_i h1 h2 h3
    exact ⟨by simpa using h1, by omega, by rw [if_neg h1, if_neg h2, if_neg h3]⟩
theorem zkp {a b : ByteArray} (h : a.size + b.size ≤ 1000000) : scat a b = some (a ++ b) := by unfold scat; rw [if_pos (by omega)]
theorem z07r {a2 : ByteArray} {ws : List ByteArray} {w : Int} (hw : ∀ x ∈ ws, x.size ≤ 24) (hl : ws.length ≤ 2000) : ∀ (d k : Nat) (s t : ByteArray), ws.length - k = d → k ≤ ws.length → s.size ≤ 25 * k → t.size ≤ 25 * k →
  ∃ s' t', iter (z6d a2 (ws, 0) w) (s, t, (k : Int)) = some (.inr (s', t')) ∧ s'.size ≤ 50000 ∧ t'.size ≤ 50000 := by
 intro d
 induction d with
 | zero =>
  intro k s t hd hk hs ht
  have : k = ws.length := by omega
  subst this
  exact ⟨s, t, z48 (by unfold z6d; rw [if_neg (by simp)]), by omega, by omega⟩
 | succ d ih =>
  intro k s t hd hk hs ht
  have hlt : k < ws.length := by omega
  have hi : idx ws (k : Int) = some ws[k] := zh0 hlt
  have hz : (ws[k]).size ≤ 24 := hw _ (List.getElem_mem hlt)
  generalize ws[k] = v at hi hz
  have e : ssub a2 0 (min (a2.size : Int) 14) = some (a2.extract 0 (min a2.size 14)) := by
   have := zmq (s := a2) (a := 0) (b := min a2.size 14) (Nat.zero_le _) (Nat.min_le_left _ _)
   rw [← this]
   congr 1
   omega
  have hs2 : (a2.extract 0 (min a2.size 14)).size ≤ 14 := by simp [ByteArray.size_extract]; omega
  generalize a2.extract 0 (min a2.size 14) = u at e hs2
  have hb : (ByteArray.mk #[32]).size = 1 := rfl
  have c1 : scat s v = some (s ++ v) := zkp (by omega)
  have c2 : scat (s ++ v) (ByteArray.mk #[32]) = some (s ++ v ++ ByteArray.mk #[32]) := zkp (by simp only [ByteArray.size_append, hb]; omega)
  have c3 : scat t v = some (t ++ v) := zkp (by omega)
  have c4 : scat (t ++ v) (ByteArray.mk #[32]) = some (t ++ v ++ ByteArray.mk #[32]) := zkp (by simp only [ByteArray.size_append, hb]; omega)
  have c5 : scat t u = some (t ++ u) := zkp (by omega)
  have c6 : scat (t ++ u) (ByteArray.mk #[32]) = some (t ++ u ++ ByteArray.mk #[32]) := zkp (by simp only [ByteArray.size_append, hb]; omega)
  have step : ∃ s' t', z6d a2 (ws, 0) w (s, t, (k : Int)) = some (.inl (s', t', ((k + 1 : Nat) : Int))) ∧ s'.size ≤ 25 * (k + 1) ∧ t'.size ≤ 25 * (k + 1) := by
   unfold z6d
   rw [if_pos (by simpa using hlt)]
   simp only [hi, e, c1, c2, c3, c4, c5, c6, Option.bind_eq_bind, Option.bind_some, zgb (i := k) (by omega)]
   by_cases h1 : (k : Int) < IntKind.i64.wrap w
   ·by_cases h2 : ((k : Int) == IntKind.i64.wrap w) = true
    ·exact ⟨s ++ v ++ ByteArray.mk #[32], t ++ u ++ ByteArray.mk #[32], by simp [h1, h2], by simp only [ByteArray.size_append, hb]; omega, by simp only [ByteArray.size_append, hb]; omega⟩
    ·exact ⟨s ++ v ++ ByteArray.mk #[32], t ++ v ++ ByteArray.mk #[32], by simp only [decide_eq_true h1, if_true, h2, if_false, Bool.false_eq_true, Option.bind_some], by simp only [ByteArray.size_append, hb]; omega, by simp only [ByteArray.size_append, hb]; omega⟩
   ·by_cases h2 : ((k : Int) == IntKind.i64.wrap w) = true
    ·exact ⟨s, t ++ u ++ ByteArray.mk #[32], by simp only [decide_eq_false h1, h2, if_true, if_false, Bool.false_eq_true, Option.bind_some], by omega, by simp only [ByteArray.size_append, hb]; omega⟩
    ·exact ⟨s, t ++ v ++ ByteArray.mk #[32], by simp only [decide_eq_false h1, h2, if_false, Bool.false_eq_true, Option.bind_some], by omega, by simp only [ByteArray.size_append, hb]; omega⟩
  obtain ⟨s', t', hst, h1, h2⟩ := step
  obtain ⟨s2, t2, hit, h3, h4⟩ := ih (k + 1) s' t' (by omega) (by omega) h1 h2
  exact ⟨s2, t2, by rw [zec hst]; exact hit, h3, h4⟩
theorem law_ParseCuts {a0 : z0s} (ho : zt0 (cSys a0)) (hs : zc0 (cSys a0) ≤ 400000000000) (a1 : Int) (a2 : ByteArray) : zdk a0 a1 a2 = some true := by
 unfold zdk
 rw [z04w ho hs, z011]
 simp only [Option.bind_eq_bind, Option.bind_some, Bool.not_true, Bool.false_eq_true, if_false]
 by_cases he : (endW (Wri.sSys (cSys a0))).2 = 0
 ·obtain ⟨h1, h2, h3⟩ := zyp he
  have hsh := z07q (cSys a0) h1
  rw [h3]
  generalize (Wri.sSys (cSys a0)).ws = ws at *
  cases ws with
  | nil => rfl
  | cons w r =>
   have hne : (((w :: r).length : Int) == 0) = false := by simp; omega
   have hlen : ((w :: r).length : Int) ≠ 0 := by simp; omega
   have hwl : IntKind.u64.wrap ((w :: r).length : Int) = ((w :: r).length : Int) := w64u (by omega) (by omega)
   obtain ⟨s', t', hit, hs1, ht1⟩ := z07r (a2 := a2) (w := (IntKind.u64.wrap a1).tmod ((w :: r).length : Int)) hsh h2 _ 0 (ByteArray.mk #[]) (ByteArray.mk #[]) rfl (Nat.zero_le _) (by decide) (by decide)
   have hrem : rem (IntKind.u64.wrap a1) ((w :: r).length : Int) = some ((IntKind.u64.wrap a1).tmod ((w :: r).length : Int)) := by unfold rem; rw [if_neg hlen]
   have h0 : ((0 : Int) != 0) = false := rfl
   have hit : iter (z6d a2 (w :: r, 0) ((IntKind.u64.wrap a1).tmod ((w :: r).length : Int))) (ByteArray.mk #[], ByteArray.mk #[], 0) = some (.inr (s', t')) := hit
   simp only [h0, Bool.false_eq_true, if_false, hne, hwl, hrem, Option.bind_some, hit, Sum.elim_inr, zp3 (s := s') (by omega), zp3 (s := t') (by omega), zyq (s := s') (by omega), zyq (s := t') (by omega), beq_self_eq_true, if_true, z04x, zyr]
 ·have he' : ((endW (Wri.sSys (cSys a0))).2 != 0) = true := by simpa using he
  simp only [he', if_true, Option.bind_some]
end Go.Proofs.YtokjbpmjdcbogaaGreatDoor.Abs.Par
/- The statements' own trees, read off a row's data, with what they weigh. -/
namespace Go.Proofs.YtokjbpmjdcbogaaGreatDoor.Abs.Wri
open Go Go.RowKit
set_option linter.unusedVariables false
set_option linter.unusedSimpArgs false
theorem zp4 {n : Int} (h : InK .i64 n) : in64 n := by
 have h1 := h.lo
 have h2 := h.hi
 simp [IntKind.min, IntKind.max, IntKind.signed, IntKind.bits] at h1 h2
 exact ⟨by omega, by omega⟩
mutual
def mE : z07 → Nat
 | ⟨_, _, s, l⟩ => s.size + mEs l + 4
def mEs : List z07 → Nat
 | [] => 0
 | e :: r => mE e + mEs r
end
mutual
def rgE : z07 → Prop
 | ⟨_, n, _, l⟩ => in64 n ∧ rgEs l
def rgEs : List z07 → Prop
 | [] => True
 | e :: r => rgE e ∧ rgEs r
end
theorem zys : ∀ l, mEs l = sumM mE l
 | [] => rfl
 | e :: r => by simp only [mEs, sumM, zys r]
theorem zyt : ∀ {l : List z07}, (∀ x ∈ l, rgE x) → rgEs l
 | [], _ => trivial
 | e :: r, h => ⟨h e List.mem_cons_self, zyt fun x hx => h x (List.mem_cons_of_mem _ hx)⟩
mutual
theorem zul : ∀ (e : z07), rgE e → mE e ≤ 4194304 → okE (cE e) ∧ szE (cE e) ≤ mE e
 | ⟨k, n, s, l⟩, h, hm => by
  simp only [rgE] at h
  simp only [mE] at hm ⊢
  have := zyu l h.2 (by omega)
  simp only [cE, okE, szE]
  exact ⟨⟨h.1, by omega, this.1⟩, by omega⟩
theorem zyu : ∀ (l : List z07), rgEs l → mEs l ≤ 4194304 → okEs (cEs l) ∧ szEs (cEs l) ≤ mEs l
 | [], _, _ => ⟨trivial, Nat.le_refl _⟩
 | e :: r, h, hm => by
  simp only [rgEs] at h
  simp only [mEs] at hm ⊢
  have h1 := zul e h.1 (by omega)
  have h2 := zyu r h.2 (by omega)
  simp only [cEs, okEs, szEs]
  exact ⟨⟨h1.1, h2.1⟩, by omega⟩
end
mutual
def mS : z03 → Nat
 | .mk _ n t e c b l a => n.size + t.size + mE e + (mE c.L + mE c.R) + mL b + mL l + mA a + 8
def mL : List z03 → Nat
 | [] => 0
 | s :: r => mS s + mL r
def mA : List z24 → Nat
 | [] => 0
 | .mk t v b :: r => (t.size + v.size + mL b + 3) + mA r
end
def mAr (x : z24) : Nat := x.Tag.size + x.Var.size + mL x.Body + 3
mutual
def rgS : z03 → Prop
 | .mk _ _ _ e c b l a => rgE e ∧ rgE c.L ∧ rgE c.R ∧ rgL b ∧ rgL l ∧ rgA a
def rgL : List z03 → Prop
 | [] => True
 | s :: r => rgS s ∧ rgL r
def rgA : List z24 → Prop
 | [] => True
 | .mk _ _ b :: r => rgL b ∧ rgA r
end
def rgAr (x : z24) : Prop := rgL x.Body
theorem zum : ∀ l, mL l = sumM mS l
 | [] => by simp only [mL, sumM]
 | e :: r => by simp only [mL, sumM, zum r]
theorem z02x : ∀ l, mA l = sumM mAr l
 | [] => by simp only [mA, sumM]
 | .mk t v b :: r => by simp only [mA, sumM, z02x r]; rfl
theorem zr3 : ∀ {l : List z03}, (∀ x ∈ l, rgS x) → rgL l
 | [], _ => by simp only [rgL]
 | e :: r, h => by simp only [rgL]; exact ⟨h e List.mem_cons_self, zr3 fun x hx => h x (List.mem_cons_of_mem _ hx)⟩
theorem z02y : ∀ {l : List z24}, (∀ x ∈ l, rgAr x) → rgA l
 | [], _ => by simp only [rgA]
 | .mk t v b :: r, h => by simp only [rgA]; exact ⟨h (.mk t v b) List.mem_cons_self, z02y fun x hx => h x (List.mem_cons_of_mem _ hx)⟩
mutual
theorem z07s : ∀ (s : z03), rgS s → mS s ≤ 4194304 → okS (cS s) ∧ szS (cS s) ≤ mS s
 | .mk k n t e c b l a, h, hm => by
  simp only [rgS] at h
  simp only [mS] at hm ⊢
  have h1 := zul e h.1 (by omega)
  have h2 := zul c.L h.2.1 (by omega)
  have h3 := zul c.R h.2.2.1 (by omega)
  have h4 := zr4 b h.2.2.2.1 (by omega)
  have h5 := zr4 l h.2.2.2.2.1 (by omega)
  have h6 := z02z a h.2.2.2.2.2 (by omega)
  have hz : szC (cC c) = 1 + szE (cE c.L) + szE (cE c.R) := rfl
  simp only [cS, okS, szS, hz]
  exact ⟨⟨by omega, by omega, h1.1, ⟨h2.1, h3.1⟩, h4.1, h5.1, h6.1⟩, by omega⟩
theorem zr4 : ∀ (l : List z03), rgL l → mL l ≤ 4194304 → okL (cL l) ∧ szL (cL l) ≤ mL l + 1
 | [], _, _ => by simp only [cL, okL, szL, mL, true_and]; omega
 | s :: r, h, hm => by
  simp only [rgL] at h
  simp only [mL] at hm ⊢
  have h1 := z07s s h.1 (by omega)
  have h2 := zr4 r h.2 (by omega)
  simp only [cL, okL, szL]
  exact ⟨⟨h1.1, h2.1⟩, by omega⟩
theorem z02z : ∀ (l : List z24), rgA l → mA l ≤ 4194304 → okA (cA l) ∧ szA (cA l) ≤ mA l + 1
 | [], _, _ => by simp only [cA, okA, szA, mA, true_and]; omega
 | .mk t v b :: r, h, hm => by
  simp only [rgA] at h
  simp only [mA] at hm ⊢
  have h1 := zr4 b h.1 (by omega)
  have h2 := z02z r h.2 (by omega)
  simp only [cA, okA, szA]
  exact ⟨⟨by omega, by omega, h1.1, h2.1⟩, by omega⟩
end
/-! ### Off the data -/
section
variable {H : Type} {enc : TypeId × Value → H} {w : World}
theorem zfx {T E : TypeId} {τ : Type} {e : τ → List PV} {ok : τ → Prop} {m : τ → Nat} {sz : Nat} {P : Program} (hu : P.underlying T = some (.slice E)) (hsz : P.cellsOf E = sz) (hpos : 0 < sz) (hlen : ∀ x, (e x).length = sz) {fuel : Nat} (hE : ∀ f, f < fuel → DecB P enc w f E e ok m) :
  DecB P enc w fuel T (fun l : List τ => [.sl (l.map e)]) (fun l => (∀ x ∈ l, ok x) ∧ l.length ≤ maxLen) (fun l => sumM m l + 1) := by
 cases fuel with
 | zero => exact zn8
 | succ f => exact zvn hu hsz hpos hlen (hE f (Nat.lt_succ_self f))
theorem zyv : ∀ fuel, DecB Tryz.prog enc w fuel 43 z1z rgE mE := by
 intro fuel
 induction fuel using Nat.strongRecOn with
 | _ fuel ih =>
  cases fuel with
  | zero => exact zn8
  | succ f =>
   refine z8o (N := 4) (fun x : Int × Int × ByteArray × List z07 × Unit => z07.mk x.1 x.2.1 x.2.2.1 x.2.2.2.1) Tryz.underlying43 (by kernel_rfl)
    (z3e (sz := 1) rfl (by kernel_rfl) (zdb Tryz.underlying3 f) (z3e (sz := 1) rfl (by kernel_rfl) (zdb Tryz.underlying3 f) (z3e (sz := 1) rfl (by kernel_rfl) (z9s Tryz.underlying9 f)
     (z3e (sz := 1) rfl (by kernel_rfl) (zfx Tryz.underlying41 (by kernel_rfl) (by decide) zna fun g hg => ih g (by omega)) (zdc (by decide))))))
    (fun x => by rw [z25]; rfl) (fun x h => ⟨zp4 h.2.1, zyt h.2.2.2.1.1⟩) (fun x => ?_)
   show x.2.2.1.size + mEs x.2.2.2.1 + 4 ≤ 1 + (1 + (x.2.2.1.size + 1 + (sumM mE x.2.2.2.1 + 1 + 0))) + 1
   rw [zys]; omega
theorem z07t (fuel : Nat) : DecB Tryz.prog enc w fuel 46 z7v (fun c => rgE c.L ∧ rgE c.R) (fun c => mE c.L + mE c.R + 2) := by
 cases fuel with
 | zero => exact zn8
 | succ f =>
  refine z8o (N := 9) (fun x : Int × z07 × z07 × Unit => z2b.mk x.1 x.2.1 x.2.2.1) Tryz.underlying46 (by kernel_rfl)
   (z3e (sz := 1) rfl (by kernel_rfl) (zdb Tryz.underlying3 f) (z3e (sz := 4) rfl (by kernel_rfl) (zyv f) (z3e (sz := 4) rfl (by kernel_rfl) (zyv f) (zdc (by decide)))))
   (fun x => by simp only [z25]; rfl) (fun x h => ⟨h.2.1, h.2.2.1⟩) (fun x => ?_)
  show mE x.2.1 + mE x.2.2.1 + 2 ≤ 1 + (mE x.2.1 + (mE x.2.2.1 + 0)) + 1
  omega
theorem z07u : ∀ fuel, DecB Tryz.prog enc w fuel 50 z0d rgS mS := by
 intro fuel
 induction fuel using Nat.strongRecOn with
 | _ fuel ih =>
  cases fuel with
  | zero => exact zn8
  | succ f =>
   have hL : ∀ g, g ≤ f → DecB Tryz.prog enc w g 47 (fun l : List z03 => [.sl (l.map z0d)]) (fun l => (∀ x ∈ l, rgS x) ∧ l.length ≤ maxLen) (fun l => sumM mS l + 1) := fun g hg =>
    zfx Tryz.underlying47 (by kernel_rfl) (by decide) zes fun g' hg' => ih g' (by omega)
   have hA : ∀ g, g ≤ f → DecB Tryz.prog enc w g 151 z52 rgAr mAr := fun g hg => by
    cases g with
    | zero => exact zn8
    | succ g =>
     refine z8o (N := 3) (fun x : ByteArray × ByteArray × List z03 × Unit => z24.mk x.1 x.2.1 x.2.2.1) Tryz.underlying151 (by kernel_rfl)
      (z3e (sz := 1) rfl (by kernel_rfl) (z9s Tryz.underlying9 g) (z3e (sz := 1) rfl (by kernel_rfl) (z9s Tryz.underlying9 g) (z3e (sz := 1) rfl (by kernel_rfl) (hL g (by omega)) (zdc (by decide)))))
      (fun x => by rw [z4x]; rfl) (fun x h => zr3 h.2.2.1.1) (fun x => ?_)
     show x.1.size + x.2.1.size + mL x.2.2.1 + 3 ≤ x.1.size + 1 + (x.2.1.size + 1 + (sumM mS x.2.2.1 + 1 + 0)) + 1
     rw [zum]; omega
   refine z8o (N := 19) (fun x : Int × ByteArray × ByteArray × z07 × z2b × List z03 × List z03 × List z24 × Unit => z03.mk x.1 x.2.1 x.2.2.1 x.2.2.2.1 x.2.2.2.2.1 x.2.2.2.2.2.1 x.2.2.2.2.2.2.1 x.2.2.2.2.2.2.2.1) Tryz.underlying50 (by kernel_rfl)
    (z3e (sz := 1) rfl (by kernel_rfl) (zdb Tryz.underlying3 f) (z3e (sz := 1) rfl (by kernel_rfl) (z9s Tryz.underlying9 f) (z3e (sz := 1) rfl (by kernel_rfl) (z9s Tryz.underlying9 f)
     (z3e (sz := 4) rfl (by kernel_rfl) (zyv f) (z3e (sz := 9) rfl (by kernel_rfl) (z07t f) (z3e (sz := 1) rfl (by kernel_rfl) (hL f (Nat.le_refl f)) (z3e (sz := 1) rfl (by kernel_rfl) (hL f (Nat.le_refl f))
      (z3e (sz := 1) rfl (by kernel_rfl) (zfx Tryz.underlying48 (by kernel_rfl) (by decide) zjd fun g hg => hA g (by omega)) (zdc (by decide))))))))))
    (fun x => by rw [z8p]; simp only [z25, z7v]; rfl) (fun x h => ?_) (fun x => ?_)
   ·simp only [rgS]
    exact ⟨h.2.2.2.1, h.2.2.2.2.1.1, h.2.2.2.2.1.2, zr3 h.2.2.2.2.2.1.1, zr3 h.2.2.2.2.2.2.1.1, z02y h.2.2.2.2.2.2.2.1.1⟩
   ·simp only [mS, zum, z02x]; omega
theorem z07v (fuel : Nat) : DecB Tryz.prog enc w fuel 47 (fun l : List z03 => [.sl (l.map z0d)]) (fun l => (∀ x ∈ l, rgS x) ∧ l.length ≤ maxLen) (fun l => sumM mS l + 1) :=
 zfx Tryz.underlying47 (by kernel_rfl) (by decide) zes fun g hg => z07u g
end
end Go.Proofs.YtokjbpmjdcbogaaGreatDoor.Abs.Wri
/- The statements' own systems, read off a row's data, with what they weigh; AstExprs, AstTexts by it. -/
namespace Go.Proofs.YtokjbpmjdcbogaaGreatDoor.Abs.Wri
open Go Go.RowKit
set_option linter.unusedVariables false
set_option linter.unusedSimpArgs false
theorem zhl {β : Type} {m : β → Nat} : ∀ {l : List β} {x : β}, x ∈ l → m x ≤ sumM m l
 | y :: r, x, h => by
  rcases List.mem_cons.1 h with rfl | h
  ·simp only [sumM]; omega
  ·have := zhl (m := m) h; simp only [sumM]; omega
theorem zp5 {β : Type} {m : β → Nat} (h : ∀ x, 1 ≤ m x) : ∀ l : List β, l.length ≤ sumM m l
 | [] => by simp
 | x :: r => by have := zp5 h r; have := h x; simp only [sumM, List.length_cons]; omega
def mT (s : ByteArray) : Nat := s.size + 1
theorem z030 {l : List ByteArray} {x : ByteArray} (h : x ∈ l) : x.size + 1 ≤ sumM mT l := zhl (m := mT) h
theorem z031 (l : List ByteArray) : l.length ≤ sumM mT l := zp5 (fun x => by unfold mT; omega) l
def mCh (c : z3g) : Nat := c.Name.size + c.From.size + c.To.size + sumM mT c.Tags + 6
def mMo (m : z5m) : Nat := m.Tag.size + 3
def mRu (r : z4q) : Nat := r.Chan.size + sumM mMo r.Moves + 2
def mPr (p : z42) : Nat := p.Name.size + sumM mT p.Vars + mL p.Body + 3
def mSys (s : z0s) : Nat := sumM mCh s.Chans + sumM mRu s.Rules + sumM mPr s.Procs + 3
def rgMo (m : z5m) : Prop := in64 m.From ∧ in64 m.To
def z07w (s : z0s) : Prop := (∀ c ∈ s.Chans, in64 c.Size) ∧ (∀ r ∈ s.Rules, ∀ m ∈ r.Moves, rgMo m) ∧ (∀ p ∈ s.Procs, rgL p.Body)
theorem zjt {β : Type} {c m : β → Nat} : ∀ {l : List β}, (∀ x ∈ l, c x ≤ m x) → sumN c l ≤ sumM m l
 | [], _ => Nat.le_refl _
 | x :: r, h => by
  have h1 := h x List.mem_cons_self
  have h2 := zjt (l := r) fun y hy => h y (List.mem_cons_of_mem _ hy)
  simp only [sumN, sumM]; omega
theorem okSys_of {s : z0s} (h : z07w s) (hm : mSys s ≤ 1048576) : zt0 (cSys s) ∧ zc0 (cSys s) ≤ 2000000 := by
 obtain ⟨h1, h2, h3⟩ := h
 unfold mSys at hm
 have c1 : ∀ c ∈ s.Chans, mCh c ≤ 1048576 := fun c hc => by have := zhl (m := mCh) hc; omega
 have c2 : ∀ c ∈ s.Rules, mRu c ≤ 1048576 := fun c hc => by have := zhl (m := mRu) hc; omega
 have c3 : ∀ c ∈ s.Procs, mPr c ≤ 1048576 := fun c hc => by have := zhl (m := mPr) hc; omega
 have k3 : ∀ p ∈ s.Procs, okL (cL p.Body) ∧ szL (cL p.Body) ≤ mL p.Body + 1 := fun p hp => zr4 p.Body (h3 p hp) (by have := c3 p hp; unfold mPr at this; omega)
 refine ⟨⟨?_, ?_, ?_⟩, ?_⟩
 ·intro c hc
  obtain ⟨x, hx, rfl⟩ := List.mem_map.1 hc
  have := c1 x hx
  unfold mCh at this
  refine ⟨?_, ?_, ?_, h1 x hx, fun t ht => ?_⟩
  ·show x.Name.size ≤ _; omega
  ·show x.From.size ≤ _; omega
  ·show x.To.size ≤ _; omega
  ·have h7 := z030 (l := x.Tags) ht; omega
 ·intro c hc
  obtain ⟨x, hx, rfl⟩ := List.mem_map.1 hc
  have := c2 x hx
  unfold mRu at this
  refine ⟨?_, fun m hm => ?_⟩
  ·show x.Chan.size ≤ _; omega
  ·obtain ⟨y, hy, rfl⟩ := List.mem_map.1 hm
   have h4 := h2 x hx y hy
   have h5 := zhl (m := mMo) hy
   have h6 : mMo y = y.Tag.size + 3 := rfl
   refine ⟨h4.1, ?_, h4.2⟩
   show y.Tag.size ≤ _; omega
 ·intro c hc
  obtain ⟨x, hx, rfl⟩ := List.mem_map.1 hc
  have := c3 x hx
  unfold mPr at this
  refine ⟨?_, fun v hv => ?_, (k3 x hx).1⟩
  ·show x.Name.size ≤ _; omega
  ·have h7 := z030 (l := x.Vars) hv; omega
 ·unfold zc0
  simp only [cSys]
  rw [zeo, zeo, zeo]
  have s1 : sumN (fun x => szCh (cCh x)) s.Chans ≤ sumM mCh s.Chans := zjt fun x hx => by
   have := z031 x.Tags
   show 3 + x.Tags.length ≤ _
   unfold mCh; omega
  have s2 : sumN (fun x => szR (cRu x)) s.Rules ≤ sumM mRu s.Rules := zjt fun x hx => by
   have := zp5 (m := mMo) (fun x => by unfold mMo; omega) x.Moves
   show 1 + (x.Moves.map cMo).length ≤ _
   rw [List.length_map]
   unfold mRu; omega
  have s3 : sumN (fun x => szP (cPr x)) s.Procs ≤ sumM mPr s.Procs := zjt fun x hx => by
   have := z031 x.Vars
   have := (k3 x hx).2
   show 1 + x.Vars.length + szL (cL x.Body) ≤ _
   unfold mPr; omega
  omega
section
variable {H : Type} {enc : TypeId × Value → H} {w : World}
theorem zr5 (fuel : Nat) : DecB Tryz.prog enc w fuel 51 (fun l : List ByteArray => [.sl (l.map z1j)]) (fun l => (∀ x ∈ l, x.size ≤ maxLen) ∧ l.length ≤ maxLen) (fun l => sumM mT l + 1) :=
 zfx (e := z1j) (ok := fun s => s.size ≤ maxLen) (m := mT) Tryz.underlying51 (by kernel_rfl) (by decide) (fun _ => rfl) fun g hg => z9s Tryz.underlying9 g
theorem z04y (fuel : Nat) : DecB Tryz.prog enc w fuel 90 z3d (fun c => in64 c.Size) mCh := by
 cases fuel with
 | zero => exact zn8
 | succ f =>
  refine z8o (N := 6) (fun x : ByteArray × Int × Int × ByteArray × ByteArray × List ByteArray × Unit => z3g.mk x.1 x.2.1 x.2.2.1 x.2.2.2.1 x.2.2.2.2.1 x.2.2.2.2.2.1) Tryz.underlying90 (by kernel_rfl)
   (z3e (sz := 1) rfl (by kernel_rfl) (z9s Tryz.underlying9 f) (z3e (sz := 1) rfl (by kernel_rfl) (zdb Tryz.underlying3 f) (z3e (sz := 1) rfl (by kernel_rfl) (zdb Tryz.underlying3 f)
    (z3e (sz := 1) rfl (by kernel_rfl) (z9s Tryz.underlying9 f) (z3e (sz := 1) rfl (by kernel_rfl) (z9s Tryz.underlying9 f) (z3e (sz := 1) rfl (by kernel_rfl) (zr5 f) (zdc (by decide))))))))
   (fun x => rfl) (fun x h => zp4 h.2.2.1) (fun x => ?_)
  show x.1.size + x.2.2.2.1.size + x.2.2.2.2.1.size + sumM mT x.2.2.2.2.2.1 + 6 ≤ x.1.size + 1 + (1 + (1 + (x.2.2.2.1.size + 1 + (x.2.2.2.2.1.size + 1 + (sumM mT x.2.2.2.2.2.1 + 1 + 0))))) + 1
  omega
theorem z04z (fuel : Nat) : DecB Tryz.prog enc w fuel 98 z5y rgMo mMo := by
 cases fuel with
 | zero => exact zn8
 | succ f =>
  refine z8o (N := 3) (fun x : Int × ByteArray × Int × Unit => z5m.mk x.1 x.2.1 x.2.2.1) Tryz.underlying98 (by kernel_rfl)
   (z3e (sz := 1) rfl (by kernel_rfl) (zdb Tryz.underlying3 f) (z3e (sz := 1) rfl (by kernel_rfl) (z9s Tryz.underlying9 f) (z3e (sz := 1) rfl (by kernel_rfl) (zdb Tryz.underlying3 f) (zdc (by decide)))))
   (fun x => rfl) (fun x h => ⟨zp4 h.1, zp4 h.2.2.1⟩) (fun x => ?_)
  show x.2.1.size + 3 ≤ 1 + (x.2.1.size + 1 + (1 + 0)) + 1
  omega
theorem z050 (fuel : Nat) : DecB Tryz.prog enc w fuel 95 z2s (fun r => ∀ m ∈ r.Moves, rgMo m) mRu := by
 cases fuel with
 | zero => exact zn8
 | succ f =>
  refine z8o (N := 2) (fun x : ByteArray × List z5m × Unit => z4q.mk x.1 x.2.1) Tryz.underlying95 (by kernel_rfl)
   (z3e (sz := 1) rfl (by kernel_rfl) (z9s Tryz.underlying9 f) (z3e (sz := 1) rfl (by kernel_rfl) (zfx (e := z5y) (sz := 3) Tryz.underlying93 (by kernel_rfl) (by decide) (fun _ => rfl) fun g hg => z04z g) (zdc (by decide))))
   (fun x => rfl) (fun x h => h.2.1.1) (fun x => ?_)
  show x.1.size + sumM mMo x.2.1 + 2 ≤ x.1.size + 1 + (sumM mMo x.2.1 + 1 + 0) + 1
  omega
theorem z051 (fuel : Nat) : DecB Tryz.prog enc w fuel 53 z3y (fun p => rgL p.Body) mPr := by
 cases fuel with
 | zero => exact zn8
 | succ f =>
  refine z8o (N := 3) (fun x : ByteArray × List ByteArray × List z03 × Unit => z42.mk x.1 x.2.1 x.2.2.1) Tryz.underlying53 (by kernel_rfl)
   (z3e (sz := 1) rfl (by kernel_rfl) (z9s Tryz.underlying9 f) (z3e (sz := 1) rfl (by kernel_rfl) (zr5 f) (z3e (sz := 1) rfl (by kernel_rfl) (z07v f) (zdc (by decide)))))
   (fun x => rfl) (fun x h => zr3 h.2.2.1.1) (fun x => ?_)
  show x.1.size + sumM mT x.2.1 + mL x.2.2.1 + 3 ≤ x.1.size + 1 + (sumM mT x.2.1 + 1 + (sumM mS x.2.2.1 + 1 + 0)) + 1
  rw [zum]; omega
theorem decB_Sys (fuel : Nat) : DecB Tryz.prog enc w fuel 34 z15 z07w mSys := by
 cases fuel with
 | zero => exact zn8
 | succ f =>
  refine z8o (N := 3) (fun x : List z3g × List z4q × List z42 × Unit => z0s.mk x.1 x.2.1 x.2.2.1) Tryz.underlying34 (by kernel_rfl)
   (z3e (sz := 1) rfl (by kernel_rfl) (zfx (e := z3d) (sz := 6) Tryz.underlying30 (by kernel_rfl) (by decide) (fun _ => rfl) fun g hg => z04y g) (z3e (sz := 1) rfl (by kernel_rfl) (zfx (e := z2s) (sz := 2) Tryz.underlying31 (by kernel_rfl) (by decide) (fun _ => rfl) fun g hg => z050 g)
    (z3e (sz := 1) rfl (by kernel_rfl) (zfx (e := z3y) (sz := 3) Tryz.underlying32 (by kernel_rfl) (by decide) (fun _ => rfl) fun g hg => z051 g) (zdc (by decide)))))
   (fun x => rfl) (fun x h => ⟨h.1.1, h.2.1.1, h.2.2.1.1⟩) (fun x => ?_)
  show sumM mCh x.1 + sumM mRu x.2.1 + sumM mPr x.2.2.1 + 3 ≤ sumM mCh x.1 + 1 + (sumM mRu x.2.1 + 1 + (sumM mPr x.2.2.1 + 1 + 0)) + 1
  omega
end
end Go.Proofs.YtokjbpmjdcbogaaGreatDoor.Abs.Wri
