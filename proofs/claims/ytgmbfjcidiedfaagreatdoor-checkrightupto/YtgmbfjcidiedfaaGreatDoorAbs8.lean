/- Abstract states of the machine: a call, in its caller's state. -/
import Derived.Test.YtgmbfjcidiedfaaGreatDoorAbs7
namespace Go.Proofs.YtgmbfjcidiedfaaGreatDoor.Abs
open Go Go.RowKit
set_option linter.unusedVariables false
set_option linter.unusedSimpArgs false
section
variable {P : Program} {G : Nat → Option (List PV)}

theorem zj1 {ids ro : List Nat} {st : z0r} {j : Nat} {o : Obj'} (h : (locS ids ro st)[j]? = some (some o)) :
  ∃ b o0, ids[j]? = some b ∧ st[b]? = some (some o0) ∧ o = locO ids (!ro.contains b) o0 := by
 unfold locS at h
 rw [List.getElem?_map] at h
 cases hb : ids[j]? with
 | none => rw [hb] at h; cases h
 | some b =>
  rw [hb] at h
  simp only [Option.map_some, Option.some.injEq] at h
  cases ho : st[b]? with
  | none => rw [ho] at h; cases h
  | some o1 =>
   rw [ho] at h
   cases o1 with
   | none => cases h
   | some o0 => simp only [Option.some.injEq] at h; exact ⟨b, o0, rfl, ho, h.symm⟩
theorem zt5 (ids : List Nat) (m : Bool) (o : Obj') : (locO ids m o).mut = (m && o.mut) := by cases o <;> rfl
/-- The callee's heads. -/
def locH (η : Hd) (ids : List Nat) : Hd := ⟨fun j => η.f ((ids[j]?).getD 0), fun j => j < ids.length⟩
theorem zj2 {η : Hd} {ids : List Nat} {j b : Nat} (h : ids[j]? = some b) : (locH η ids).f j = η.f b := by simp [locH, h]
theorem zpz {η : Hd} {J : Nat → Prop} {w : World} {ids : List Nat} {x : BV} {v : Value} (h : BVr η J w x v) : BVr (locH η ids) J w (loc ids x) v :=
 zou (fun _ h => h) (fun _ _ => rfl) (fun b j _ hj => by
  have := zgd hj
  exact ⟨(List.getElem?_eq_some_iff.1 this).1, zj2 this⟩) h
theorem zla {η : Hd} {ids : List Nat} {j b k : Nat} (h : ids[j]? = some b) : Own (locH η ids) j k ↔ Own η b k := by unfold Own; rw [zj2 h]
theorem zze {η : Hd} {J : Nat → Prop} {w : World} {ids : List Nat} {j b : Nat} {m : Bool} {o : Obj'} (h : ids[j]? = some b) (ho : ObjR η J w b o) : ObjR (locH η ids) J w j (locO ids m o) := by
 cases o with
 | box m0 T cs =>
  obtain ⟨k, vs, h1, h2, h3⟩ := ho
  exact ⟨k, vs, (zj2 h).trans h1, h2, h3.map _ (fun _ _ => zpz)⟩
 | row m0 ch E sz xs =>
  rcases ho with ⟨h0, A, h1⟩ | ⟨us, k, cap, h0, hc, h1, h2, h3⟩
  ·exact .inl ⟨h0, A, (zj2 h).trans h1⟩
  ·exact .inr ⟨us, k, cap, (zj2 h).trans h0, hc, by rw [zj2 h]; exact h1, h2, h3⟩
theorem z02f {η : Hd} {J : Nat → Prop} {w : World} {st : z0r} {ids : List Nat} (ro : List Nat) (h : Ok G η J w st) (hn : ids.Nodup) : Ok G (locH η ids) J w (locS ids ro st) := by
 refine ⟨fun j hj => by have hj2 : j < ids.length := hj; simpa [locS] using hj2, h.jlt, fun j o hj => ?_, fun i j o1 o2 k hi hj hik hjk => ?_, fun j o k hj hk => ?_, h.glob⟩
 ·obtain ⟨b, o0, h1, h2, rfl⟩ := zj1 hj
  exact zze h1 (h.obj b o0 h2)
 ·obtain ⟨b, o0, h1, h2, rfl⟩ := zj1 hi
  obtain ⟨c, o0', h3, h4, rfl⟩ := zj1 hj
  have e := h.dis b c o0 o0' k h2 h4 ((zla h1).1 hik) ((zla h3).1 hjk)
  subst e
  have e1 := zm0 hn h1
  have e2 := zm0 hn h3
  rw [e1] at e2; injection e2
 ·obtain ⟨b, o0, h1, h2, rfl⟩ := zj1 hj
  exact h.jd b o0 k h2 ((zla h1).1 hk)
/-- The caller's heads behind the call. -/
def zbt (η η' : Hd) (ids : List Nat) (n m : Nat) : Hd := ⟨fun b => match pos ids b with
 | some j => η'.f j
 | none => if b < n then η.f b else η'.f (ids.length + (b - n)), fun b => η.d b ∨ b ∈ ids ∨ (n ≤ b ∧ b < n + (m - ids.length))⟩
theorem zux {o : Option Obj'} {o' o'' : Obj'} (h : zzc o o' = some o'') : o''.mut = o'.mut ∧ (∃ o0, o = some o0 ∧ (o''.same = true → o'.same = true ∧ o0.same = true)) ∧
  ∀ (η : Hd) (J : Nat → Prop) (w : World) (b : Nat), ObjR η J w b o' → ObjR η J w b o'' := by
 unfold zzc at h
 split at h
 ·injection h with h; subst h
  refine ⟨rfl, ⟨_, rfl, fun h => ?_⟩, fun η J w b h => h⟩
  simp only [Obj'.same, Bool.not_or, Bool.and_eq_true] at h ⊢
  exact h
 ·injection h with h; subst h
  exact ⟨rfl, ⟨_, rfl, fun h => ⟨rfl, rfl⟩⟩, fun η J w b h => h⟩
 ·cases h
/-- The callee's end in the caller's eyes. -/
theorem zre {E : En} {η η' : Hd} {J J' : Nat → Prop} {s : Sx} {a : Act} {w w' : World} {ids ro : List Nat} {st' : z0r} (hr : Rel G E η J s a w) (hn : ids.Nodup) (hlt : ∀ b ∈ ids, b < s.st.length)
  (ok : Ok G η' J' w' st') (ex : Ex (locH η ids) J w (locS ids ro s.st) η' J' w' st') :
  Rel G E (zbt η η' ids s.st.length st'.length) J' ⟨s.n, s.m, z6m (pur ids st') s.env, zov ids ro s.st st'⟩ a w' ∧ ∀ x v, BVr η' J' w' x v → BVr (zbt η η' ids s.st.length st'.length) J' w' (unl ids s.st.length x) v := by
 have h := hr.ok
 have hlS : (locS ids ro s.st).length = ids.length := by simp [locS]
 have hk : ids.length ≤ st'.length := by have := ex.len; omega
 -- what may have been written is the footprint's
 have wst : ∀ k, Wst (locH η ids) (locS ids ro s.st) k → ∃ b o0, ids.contains b = true ∧ ro.contains b = false ∧ s.st[b]? = some (some o0) ∧ o0.mut = true ∧ Own η b k := by
  rintro k ⟨j, o, hj, hm, ho⟩
  obtain ⟨b, o0, h1, h2, rfl⟩ := zj1 hj
  rw [zt5] at hm
  simp only [Bool.and_eq_true, Bool.not_eq_true'] at hm
  exact ⟨b, o0, by simpa using List.mem_of_getElem? h1, hm.1, h2, hm.2, (zla h1).1 ho⟩
 have keepJ : ∀ k, J k → w'.heap[k]? = w.heap[k]? := fun k hk => ex.keep k (h.jlt k hk) (fun hw => by
  obtain ⟨b, o0, _, _, h2, _, h3⟩ := wst k hw
  exact h.jd b o0 k h2 h3 hk)
 have hdr : ∀ b j, pos ids b = some j → bad st' j = false → η'.f j = η.f b := fun b j hp hb => by
  have h1 := zgd hp
  unfold bad at hb
  cases ho : st'[j]? with
  | none => rw [ho] at hb; cases hb
  | some o1 =>
   rw [ho] at hb
   cases o1 with
   | none => cases hb
   | some o' =>
    simp only [Bool.not_eq_false'] at hb
    obtain ⟨_, _, _, e⟩ := ex.hdr j o' (by rw [hlS]; exact (List.getElem?_eq_some_iff.1 h1).1) ho hb
    rw [e, zj2 h1]
 have mh : ∀ b j, pos ids b = some j → (zbt η η' ids s.st.length st'.length).f b = η'.f j := fun b j hp => by simp [zbt, hp]
 have mo : ∀ b, pos ids b = none → b < s.st.length → (zbt η η' ids s.st.length st'.length).f b = η.f b := fun b hp hb => by simp [zbt, hp, hb]
 have hpur : ∀ x v, BVr η J w x v → BVr (zbt η η' ids s.st.length st'.length) J' w' (pur ids st' x) v := fun x v hx => zou ex.jj keepJ (fun b j hb hg => by
  cases hp : pos ids b with
  | none =>
   simp only [hp] at hg
   injection hg with hg; subst hg
   exact ⟨.inl hb, mo b hp (h.len b hb)⟩
  | some i =>
   simp only [hp] at hg
   split at hg
   ·cases hg
   ·rename_i hbd
    injection hg with hg; subst hg
    exact ⟨.inl hb, (mh b i hp).trans (hdr b i hp (by simpa using hbd))⟩) hx
 have notin : ∀ c, s.st.length ≤ c → pos ids c = none := fun c hc => by
  cases hp : pos ids c with
  | none => rfl
  | some j => have := hlt c (List.mem_of_getElem? (zgd hp)); omega
 have hback : ∀ j, j < st'.length → (zbt η η' ids s.st.length st'.length).d (back ids s.st.length j) ∧ (zbt η η' ids s.st.length st'.length).f (back ids s.st.length j) = η'.f j := fun j hj => by
  unfold back
  cases hi : ids[j]? with
  | some b =>
   simp only
   have := hlt b (List.mem_of_getElem? hi)
   exact ⟨.inr (.inl (List.mem_of_getElem? hi)), mh b j (zm0 hn hi)⟩
  | none =>
   have hge : ids.length ≤ j := by simpa using hi
   simp only
   have hp := notin (s.st.length + (j - ids.length)) (by omega)
   refine ⟨.inr (.inr ⟨by omega, by omega⟩), ?_⟩
   simp only [zbt, hp]
   rw [if_neg (by omega)]
   congr 1
   omega
 have hunl : ∀ x v, BVr η' J' w' x v → BVr (zbt η η' ids s.st.length st'.length) J' w' (unl ids s.st.length x) v := fun x v hx => zou (fun _ h => h) (fun _ _ => rfl) (fun b j hb hg => by
  injection hg with hg; subst hg
  exact hback b (ok.len b hb)) hx
 have owner : ∀ b j, (zbt η η' ids s.st.length st'.length).f b = η'.f j → ∀ k, Own (zbt η η' ids s.st.length st'.length) b k → Own η' j k := fun b j e k hk => by unfold Own at hk ⊢; rwa [e] at hk
 have ownold : ∀ b, (zbt η η' ids s.st.length st'.length).f b = η.f b → ∀ k, Own (zbt η η' ids s.st.length st'.length) b k → Own η b k := fun b e k hk => by unfold Own at hk ⊢; rwa [e] at hk
 -- of an object that stayed the caller's own
 have stay : ∀ b o0, s.st[b]? = some (some o0) → (∀ j, pos ids b = some j → ro.contains b = true ∧ bad st' j = false) → (zbt η η' ids s.st.length st'.length).f b = η.f b ∧ ∀ k, Own η b k → w'.heap[k]? = w.heap[k]? ∧ ¬ J' k := fun b o0 hb hp => by
  have hb' : b < s.st.length := (List.getElem?_eq_some_iff.1 hb).1
  have nw : ∀ k, Own η b k → ¬ Wst (locH η ids) (locS ids ro s.st) k := fun k hk hw => by
   obtain ⟨c, o1, h1, h2, h3, _, h4⟩ := wst k hw
   have e := h.dis b c o0 o1 k hb h3 hk h4
   subst e
   cases hpb : pos ids b with
   | none => exact zt4 hpb (by simpa using h1)
   | some j => rw [(hp j hpb).1] at h2; cases h2
  refine ⟨?_, fun k hk => ⟨ex.keep k ((h.obj b o0 hb).lt hk) (nw k hk), fun hj => ?_⟩⟩
  ·cases hpb : pos ids b with
   | none => exact mo b hpb hb'
   | some j => rw [mh b j hpb]; exact hdr b j hpb (hp j hpb).2
  ·rcases ex.jn k hj with hj | hj | hj
   ·exact h.jd b o0 k hb hk hj
   ·have := (h.obj b o0 hb).lt hk; omega
   ·exact nw k hk hj
 -- each object of the merged store: the caller's, or the callee's number j
 have cls : ∀ b o, (zov ids ro s.st st')[b]? = some (some o) → (∃ o0, s.st[b]? = some (some o0) ∧ o = o0.map (pur ids st') ∧ ∀ j, pos ids b = some j → ro.contains b = true ∧ bad st' j = false) ∨
   (∃ j o', st'[j]? = some (some o') ∧ back ids s.st.length j = b ∧ (zbt η η' ids s.st.length st'.length).f b = η'.f j ∧ o.mut = o'.mut ∧ (ObjR (zbt η η' ids s.st.length st'.length) J' w' b (o'.map (unl ids s.st.length)) → ObjR (zbt η η' ids s.st.length st'.length) J' w' b o) ∧
    (b < s.st.length → o.same = true → o'.same = true ∧ ∃ o0, s.st[b]? = some (some o0) ∧ o0.same = true) ∧ (∀ i, pos ids b = some i → i = j ∧ ro.contains b = false)) := fun b o hb => by
  rcases zzd hb with h1 | ⟨j, o', hp, hro, ho', o0, hb0, hf⟩ | ⟨hge, o', ho', rfl⟩
  ·exact .inl h1
  ·obtain ⟨f1, ⟨o1, f2, f3⟩, f4⟩ := zux hf
   subst f2
   refine .inr ⟨j, o', ho', ?_, mh b j hp, by rw [f1, zj0], f4 _ _ _ _, fun _ hs => ?_, fun i hi => ?_⟩
   ·simp [back, zgd hp]
   ·obtain ⟨f5, f6⟩ := f3 hs; rw [zk2] at f5; exact ⟨f5, o1, hb0, f6⟩
   ·rw [hp] at hi; injection hi with hi; exact ⟨hi.symm, hro⟩
  ·have hj : ids.length + (b - s.st.length) < st'.length := (List.getElem?_eq_some_iff.1 ho').1
   have hbk : back ids s.st.length (ids.length + (b - s.st.length)) = b := by
    unfold back
    rw [List.getElem?_eq_none (by omega)]
    simp only
    omega
   have := (hback _ hj).2
   rw [hbk] at this
   exact .inr ⟨_, o', ho', hbk, this, zj0 _ _, fun h => h, fun hlt' => by omega, fun i hi => by rw [notin b hge] at hi; cases hi⟩
 have hbinj : ∀ i j, back ids s.st.length i = back ids s.st.length j → i < st'.length → j < st'.length → i = j := fun i j e hi hj => by
  unfold back at e
  cases h1 : ids[i]? with
  | some b =>
   have hb := hlt b (List.mem_of_getElem? h1)
   cases h2 : ids[j]? with
   | some c =>
    simp only [h1, h2] at e; subst e
    have e1 := zm0 hn h1
    rw [zm0 hn h2] at e1; injection e1 with e1; exact e1.symm
   | none => simp only [h1, h2] at e; omega
  | none =>
   have h1' : ids.length ≤ i := by simpa using h1
   cases h2 : ids[j]? with
   | some c => have hc := hlt c (List.mem_of_getElem? h2); simp only [h1, h2] at e; omega
   | none =>
    have h2' : ids.length ≤ j := by simpa using h2
    simp only [h1, h2] at e; omega
 -- the callee's object and one that stayed the caller's own don't share a block
 have far : ∀ b o0 j o' k, s.st[b]? = some (some o0) → (∀ i, pos ids b = some i → ro.contains b = true ∧ bad st' i = false) → st'[j]? = some (some o') → (∀ i, pos ids b = some i → i ≠ j) → Own η b k → Own η' j k → False := fun b o0 j o' k hb hp hj hne hbk hjk => by
  rcases ex.own j o' k hj hjk with h1 | ⟨c, o1, h1, h2, _⟩
  ·have := (h.obj b o0 hb).lt hbk; omega
  ·obtain ⟨d, o2, h3, h4, _⟩ := zj1 h1
   have e := h.dis b d o0 o2 k hb h4 hbk ((zla h3).1 h2)
   subst e
   have hpd := zm0 hn h3
   obtain ⟨_, hbd⟩ := hp c hpd
   unfold bad at hbd
   cases hc : st'[c]? with
   | none => rw [hc] at hbd; cases hbd
   | some o3 =>
    rw [hc] at hbd
    cases o3 with
    | none => cases hbd
    | some o3 =>
     have : Own η' c k := by unfold Own; rw [hdr b c hpd (by unfold bad; rw [hc]; exact hbd)]; exact hbk
     exact hne c hpd (ok.dis c j o3 o' k hc hj this hjk)
 refine ⟨⟨hr.size, hr.m, hr.defers, fun t xs ht => ?_, ⟨fun b hb => by
  rw [zpy]
  rcases hb with hb | hb | hb
  ·have := h.len b hb; omega
  ·have := hlt b hb; omega
  ·exact hb.2, ok.jlt, fun b o hb => ?_, fun b c o1 o2 k hb hc hbk hck => ?_, fun b o k hb hbk hj => ?_, ok.glob⟩, hr.ex.trans ⟨ex.jj, ex.os, ex.tape, ex.output, ex.size, fun k hk hw => ?_, fun k hj => ?_, by rw [zpy]; omega, fun b o k hb hbk => ?_, fun b o hlt' hb hs => ?_⟩⟩, hunl⟩
 ·rw [show (⟨s.n, s.m, z6m (pur ids st') s.env, zov ids ro s.st st'⟩ : Sx).env = z6m (pur ids st') s.env from rfl, zpp] at ht
  cases hl : lk s.env t with
  | none => rw [hl] at ht; cases ht
  | some ys => rw [hl] at ht; injection ht with ht; subst ht; exact Rs.map hpur (hr.env t ys hl)
 ·rcases cls b o hb with ⟨o0, h1, rfl, h2⟩ | ⟨j, o', h1, h2, h3, _, h4, _⟩
  ·obtain ⟨e, hst⟩ := stay b o0 h1 h2
   exact (h.obj b o0 h1).map e (fun k hk => (hst k hk).1) hpur (fun p v hp => Rd.mono ex.jj keepJ hp)
  ·have := ok.obj j o' h1
   refine h4 ?_
   have hmv : ObjR (zbt η η' ids s.st.length st'.length) J' w' b (o'.map (unl ids s.st.length)) := by
    cases o' with
    | box m T cs =>
     obtain ⟨k, vs, q1, q2, q3⟩ := this
     exact ⟨k, vs, h3.trans q1, q2, q3.map _ hunl⟩
    | row m ch E sz xs =>
     rcases this with ⟨q0, A, q1⟩ | ⟨us, k, cap, q0, qc, q1, q2, q3⟩
     ·exact .inl ⟨q0, A, h3.trans q1⟩
     ·exact .inr ⟨us, k, cap, h3.trans q0, qc, by rw [h3]; exact q1, q2, q3⟩
   exact hmv
 ·rcases cls b o1 hb with ⟨p0, p1, rfl, p2⟩ | ⟨i, p', p1, p2, p3, _, _, _, p4⟩ <;> rcases cls c o2 hc with ⟨q0, q1, rfl, q2⟩ | ⟨j, q', q1, q2, q3, _, _, _, q4⟩
  ·exact h.dis b c p0 q0 k p1 q1 (ownold b (stay b p0 p1 p2).1 k hbk) (ownold c (stay c q0 q1 q2).1 k hck)
  ·by_cases e : b = c
   ·exact e
   ·exact (far b p0 j q' k p1 p2 q1 (fun i hi e' => by subst e'; exact e (by rw [← q2]; simp [back, zgd hi])) (ownold b (stay b p0 p1 p2).1 k hbk) (owner c j q3 k hck)).elim
  ·by_cases e : b = c
   ·exact e
   ·exact (far c q0 i p' k q1 q2 p1 (fun i' hi e' => by subst e'; exact e (by rw [← p2]; simp [back, zgd hi])) (ownold c (stay c q0 q1 q2).1 k hck) (owner b i p3 k hbk)).elim
  ·have := ok.dis i j p' q' k p1 q1 (owner b i p3 k hbk) (owner c j q3 k hck)
   subst this
   rw [← p2, ← q2]
 ·rcases cls b o hb with ⟨p0, p1, rfl, p2⟩ | ⟨i, p', p1, p2, p3, _⟩
  ·exact ((stay b p0 p1 p2).2 k (ownold b (stay b p0 p1 p2).1 k hbk)).2 hj
  ·exact ok.jd i p' k p1 (owner b i p3 k hbk) hj
 ·exact ex.keep k hk (fun hw' => by
   obtain ⟨b, o0, _, _, h2, h3, h4⟩ := wst k hw'
   exact hw ⟨b, o0, h2, h3, h4⟩)
 ·rcases ex.jn k hj with hj | hj | hj
  ·exact .inl hj
  ·exact .inr (.inl hj)
  ·obtain ⟨b, o0, _, _, h2, h3, h4⟩ := wst k hj
   exact .inr (.inr ⟨b, o0, h2, h3, h4⟩)
 ·rcases cls b o hb with ⟨p0, p1, rfl, p2⟩ | ⟨i, p', p1, p2, p3, p4, _⟩
  ·exact .inr ⟨b, p0, p1, ownold b (stay b p0 p1 p2).1 k hbk, fun hm => by rwa [zj0] at hm⟩
  ·rcases ex.own i p' k p1 (owner b i p3 k hbk) with h1 | ⟨c, o1, h1, h2, h3⟩
   ·exact .inl h1
   ·obtain ⟨d, o2, h4, h5, rfl⟩ := zj1 h1
    refine .inr ⟨d, o2, h5, (zla h4).1 h2, fun hm => ?_⟩
    rw [p4] at hm
    have := h3 hm
    rw [zt5] at this
    simp only [Bool.and_eq_true] at this
    exact this.2
 ·rcases cls b o hb with ⟨p0, p1, rfl, p2⟩ | ⟨i, p', p1, p2, p3, _, _, p5, p6⟩
  ·exact ⟨p0, p1, by rwa [zk2] at hs, (stay b p0 p1 p2).1⟩
  ·obtain ⟨h1, o0, h2, h3⟩ := p5 hlt' hs
   refine ⟨o0, h2, h3, ?_⟩
   rw [p3]
   unfold back at p2
   cases hi : ids[i]? with
   | some c =>
    simp only [hi] at p2; subst p2
    exact hdr c i (zm0 hn hi) (by unfold bad; rw [p1]; simp [h1])
   | none => simp only [hi] at p2; omega
end
end Go.Proofs.YtgmbfjcidiedfaaGreatDoor.Abs
