/- Abstract states of the machine: stores into rows, lifts in cells, empty slices told as values. -/
import Derived.Test.YtbebnddalipfhaaGreatAbsI
namespace Go.Proofs.YtbebnddalipfhaaGreat.Abs
open Go Go.RowKit
set_option linter.unusedVariables false
set_option linter.unusedSimpArgs false
section
variable {P : Program} {G : Nat → Option (List PV)} {o : Oper} {s : Sx} {n m t : Nat} {env : List (Nat × List XV)} {st st' : Store} {K : Sx → Prop}

/-- An empty slice in a box's cell becomes a row. -/
theorem weak_liftC {s : Sx} {T : TypeId} {cs : List BV} (b i E sz : Nat) (hb : s.st[b]? = some (some (.box true T cs))) (h : cs[i]? = some .emp) :
    Weak G s ⟨s.n, s.m, s.env, (s.st.set b (some (.box true T (cs.set i (.row s.st.length))))) ++ [some (.row true false E sz [])]⟩ := by
  intro E0 η J a w hr
  obtain ⟨k, vs, h1, h2, h3⟩ := hr.ok.obj b _ hb
  obtain ⟨v, hv, A, hA⟩ := h3.get h
  have hno : ∀ k, Own (η.push s.st.length (.slice A 0 0)) s.st.length k → w.heap.size ≤ k := fun k hk => by
    rcases hk with hk | ⟨n, cap, hk, hp⟩
    · rw [Hd.push_n] at hk; cases hk
    · rw [Hd.push_n] at hk; injection hk with _ _ hk; omega
  have hbl : b < s.st.length := (List.getElem?_eq_some_iff.1 hb).1
  have hnd : ¬ η.d s.st.length := fun h' => by have := hr.ok.len _ h'; omega
  have r1 := hr.new (o := .row true false E sz []) (v := .slice A 0 0) rfl rfl rfl (Nat.le_refl _) (fun _ _ => rfl) hno (.inl ⟨rfl, A, Hd.push_n⟩)
  have hb1 : (s.st ++ [some (.row true false E sz [])])[b]? = some (some (.box true T cs)) := by rw [List.getElem?_append_left hbl]; exact hb
  have hJw : ∀ j, J j → w.heap[j]? = w.heap[j]? := fun _ _ => rfl
  have r2 := r1.turn (b := b) (o := .box true T cs) (f := id) (η' := η.push s.st.length (.slice A 0 0)) (J' := J) (w' := w) (new := some (.box true T (cs.set i (.row s.st.length))))
    ⟨hb1, rfl, fun _ h => h, fun _ _ => rfl, fun _ h => h, rfl, rfl, rfl, Nat.le_refl _, fun _ _ _ => rfl, fun _ _ h => h, fun o' ho' => by
      injection ho' with ho'
      subst ho'
      refine ⟨⟨k, vs, by rw [Hd.push_ne (by omega)]; exact h1, h2, ?_⟩, rfl, fun _ => ⟨rfl, rfl⟩⟩
      have h4 : L2 (BVr (η.push s.st.length (.slice A 0 0)) J w) cs vs.toList := h3.mono (fun x u hx => BVr.push hnd (fun _ _ => rfl) hx)
      have h5 := h4.set i (x := .row s.st.length) (y := v) (by rw [hA]; exact ⟨.inr rfl, Hd.push_n.symm, rfl⟩)
      have h6 : vs.toList.set i v = vs.toList := by
        apply List.ext_getElem?
        intro j
        rw [List.getElem?_set]
        split
        · rename_i e
          subst e
          rw [if_pos (List.getElem?_eq_some_iff.1 hv).1]
          exact hv.symm
        · rfl
      rwa [h6] at h5, fun o' j ho' hj => ⟨.inr hj, fun hJ => by
        injection ho' with ho'
        exact r1.ok.jd b _ j hb1 hj hJ⟩, fun j hj => .inl hj⟩
  refine ⟨_, J, r2.size, r2.m, r2.defers, fun u xs hu => r2.env u xs (by rw [mapEnv_id]; exact hu), ?_, ?_⟩
  · have := r2.ok
    rw [mapSt_id] at this
    rwa [List.set_append_left _ _ hbl] at this
  · have := r2.ex
    rw [mapSt_id] at this
    rwa [List.set_append_left _ _ hbl] at this
/-- Cells told otherwise, the world as it is. -/
theorem weak_map {s : Sx} (f : BV → BV) (hf : ∀ {η : Hd} {J : Nat → Prop} {w : World} {x : BV} {v : Value}, BVr η J w x v → BVr η J w (f x) v) : Weak G s ⟨s.n, s.m, mapEnv f s.env, mapSt f s.st⟩ := by
  intro E0 η J a w hr
  refine ⟨η, J, hr.step f (fun x v hx => hf hx) ⟨fun b hb => by simpa [mapSt] using hr.ok.len b hb, hr.ok.jlt, fun b o hb => ?_, fun b c o1 o2 k hb hc => ?_, fun b o k hb => ?_, hr.ok.glob⟩ ⟨fun _ h => h, rfl, rfl, rfl, Nat.le_refl _, fun _ _ _ => rfl, fun _ h => .inl h, by simp [mapSt], fun b o k hb hk => ?_, fun b o hl hb hs => ?_⟩⟩
  · obtain ⟨o', h1, rfl⟩ := (mapSt_at f s.st b o).1 hb
    exact (hr.ok.obj b o' h1).map rfl (fun _ _ => rfl) (fun _ _ hx => hf hx) (fun _ _ h => h)
  · obtain ⟨o1', h1, rfl⟩ := (mapSt_at f s.st b o1).1 hb
    obtain ⟨o2', h2, rfl⟩ := (mapSt_at f s.st c o2).1 hc
    exact hr.ok.dis b c o1' o2' k h1 h2
  · obtain ⟨o', h1, rfl⟩ := (mapSt_at f s.st b o).1 hb
    exact hr.ok.jd b o' k h1
  · obtain ⟨o', h1, rfl⟩ := (mapSt_at f s.st b o).1 hb
    exact .inr ⟨b, o', h1, hk, fun h => by rwa [map_mut] at h⟩
  · obtain ⟨o', h1, rfl⟩ := (mapSt_at f s.st b o).1 hb
    exact ⟨o', h1, by rwa [map_same] at hs, rfl⟩
theorem weak_nil {s : Sx} : Weak G s ⟨s.n, s.m, mapEnv nilE s.env, mapSt nilE s.st⟩ := weak_map nilE nilE_sound
/-- What is still wanted of the temporaries. -/
def SubEnv (env : List (Nat × List XV)) : List (Nat × List XV) → Prop
  | [] => True
  | (t, x) :: r => lk env t = some x ∧ SubEnv env r
theorem SubEnv.sound {env : List (Nat × List XV)} : ∀ {env' : List (Nat × List XV)}, SubEnv env env' → ∀ t xs, lk env' t = some xs → lk env t = some xs
  | [], _, t, xs, h => by cases h
  | (u, x) :: r, hs, t, xs, h => by
    simp only [lk] at h
    split at h
    · rename_i e; subst e; injection h with h; subst h; exact hs.1
    · exact hs.2.sound t xs h
theorem weak_sub' {env' : List (Nat × List XV)} (h : SubEnv env env') : Weak G ⟨n, m, env, st⟩ ⟨n, m, env', st⟩ := weak_env (s := ⟨n, m, env, st⟩) h.sound
end
end Go.Proofs.YtbebnddalipfhaaGreat.Abs
