/- Abstract states of the machine: loops by their unfolding, joins, and the answers of a partial function. -/
import Derived.Test.YtimbigpplbbjaaaGreatDoorAbsF
namespace Go.Proofs.YtimbigpplbbjaaaGreatDoor.Abs
open Go Go.RowKit
set_option linter.unusedVariables false
set_option linter.unusedSimpArgs false
section
variable {P:Program} {G:Nat→Option (List PV)}
theorem zqu {m m₁ x:Machine} (h:step P m=.next m₁) (hs:Steps P m x) (hne:m≠x):Steps P m₁ x:=by
 obtain ⟨n,hn⟩:=hs
 cases n with
 | zero=>simp only [runN] at hn;injection hn with hn;exact absurd hn hne
 | succ n=>simp only [runN,h] at hn;exact ⟨n,hn⟩
theorem z00z {fr fr':Frame} {cs cs':List Frame} {w w':World} (h:lone fr cs w=lone fr' cs' w'):fr=fr':=by
 unfold lone at h
 injection h with h1 h2 h3
 injection h2 with h2
 injection h2 with h2
 injection h2
theorem zqv {id:Nat}:∀ {k k':List Item},exitTo id k=some k'→k'.length<k.length
 | [],k',h=>by cases h
 | x::k,k',h=>by
  have rec':exitTo id k=some k'→k'.length<(x::k).length:=fun h=>Nat.lt_succ_of_lt (zqv h)
  cases x <;> simp only [exitTo] at h <;> try exact rec' h
  split at h
  ·injection h with h;subst h;simp
  ·exact rec' h
theorem zob {c:Code} {Q:Exit→Act→World→Prop} {a:Act} {w:World} (hg:∀ l a w,¬ Q (.goto l) a w) (ho:∀ a w,¬ Q .outgrown a w)
  (h:c.wp P (Exit.then (fun a' w'=>(Code.loop c).wp P Q a' w') Q) a w):(Code.loop c).wp P Q a w:=by
 intro b k cs
 obtain ⟨e,a₁,w₁,hq,harr⟩:=h b (.inLoop c::k) cs
 have done:∃ e a' w',Q e a' w'∧Arrives P (lone (b.at a (.code c::.inLoop c::k)) cs w) b k cs e a' w':=by
  cases e with
  | normal =>
   obtain ⟨e₂,a₂,w₂,hq₂,harr₂⟩:=hq b k cs
   have hm:∀ fr,(fr.todo.length<(Item.code (.loop c)::k).length∨fr.mode≠.run)→lone (b.at a₁ (.code (.loop c)::k)) cs w₁≠lone fr cs w₂:=fun fr hfr he=>by
    have:=z00z he
    subst this
    rcases hfr with hfr|hfr
    ·simp [Frame.at] at hfr
    ·exact hfr rfl
   have un:∀ fr,(fr.todo.length<(Item.code (.loop c)::k).length∨fr.mode≠.run)→Steps P (lone (b.at a₁ (.code (.loop c)::k)) cs w₁) (lone fr cs w₂)→Steps P (lone (b.at a (.code c::.inLoop c::k)) cs w) (lone fr cs w₂) :=
    fun fr hfr hs=>Steps.trans harr (Steps.trans (.one step_inLoop) (zqu step_loop hs (hm fr hfr)))
   refine ⟨e₂,a₂,w₂,hq₂,?_⟩
   cases e₂ with
   | normal=>exact un _ (.inl (by simp [Frame.at])) harr₂
   | exit id=>exact fun k' hk=>un _ (.inl (by have:=zqv hk;simp [Frame.at];omega)) (harr₂ k' hk)
   | goto l=>exact absurd hq₂ (hg _ _ _)
   | ret=>obtain ⟨todo,hs⟩:=harr₂;exact ⟨todo,un _ (.inr (by simp)) hs⟩
   | panic ch=>obtain ⟨todo,hs⟩:=harr₂;exact ⟨todo,un _ (.inr (by simp)) hs⟩
   | outgrown=>exact absurd hq₂ (ho _ _)
  | exit id=>exact ⟨_,a₁,w₁,hq,.pass (x:=.inLoop c) rfl (fun _ _=>.inl (by simp)) harr⟩
  | goto l=>exact ⟨_,a₁,w₁,hq,.pass (x:=.inLoop c) rfl (fun _ _=>.inl (by simp)) harr⟩
  | ret=>exact ⟨_,a₁,w₁,hq,.pass (x:=.inLoop c) rfl (fun _ _=>.inl (by simp)) harr⟩
  | panic ch=>exact ⟨_,a₁,w₁,hq,.pass (x:=.inLoop c) rfl (fun _ _=>.inl (by simp)) harr⟩
  | outgrown=>exact ⟨_,a₁,w₁,hq,.pass (x:=.inLoop c) rfl (fun _ _=>.inl (by simp)) harr⟩
 obtain ⟨e,a',w',hq,harr⟩:=done
 exact ⟨e,a',w',hq,.of_steps (.one step_loop) harr⟩
structure Tame (Q:Exit→Sx→Prop):Prop where
 goto:∀ l s,¬ Q (.goto l) s
 out:∀ s,¬ Q .outgrown s
theorem Tame.block {Q:Exit→Sx→Prop} (h:Tame Q) (id:Nat):Tame (zlh id Q):=⟨h.goto,h.out⟩
theorem Tame.then {Q:Exit→Sx→Prop} (h:Tame Q) (y:Code):Tame (Then P G y Q):=⟨h.goto,h.out⟩
def z09g (P:Program) (G:Nat→Option (List PV)) (c:Code) (Q:Exit→Sx→Prop):Exit→Sx→Prop
 | .normal,s=>z9w P G (.loop c) s Q
 | e,s=>Q e s
theorem z09h {c:Code} {s:Sx} {Q:Exit→Sx→Prop} (ht:Tame Q) (h:z9w P G c s (z09g P G c Q)):z9w P G (.loop c) s Q:=by
 intro E η J a w hr
 refine zob (fun l a w ⟨_,_,s',h,_⟩=>ht.goto l s' h) (fun a w ⟨_,_,s',h,_⟩=>ht.out s' h) (wp_mono (h E η J a w hr) ?_)
 rintro e a' w' ⟨η',J',s',hq,hr'⟩
 cases e with
 | normal=>exact hq E η' J' a' w' hr'
 | _=>exact ⟨η',J',s',hq,hr'⟩
theorem z07 {α β:Type} {x:Option α} {f:α→Option β} {r:β} (h:x>>=f=some r):∃ y,x=some y∧f y=some r:=by
 cases x with
 | none=>cases h
 | some y=>exact ⟨y,rfl,h⟩
def idx {α:Type} (xs:List α) (i:Int):Option α:=if 0≤i then xs[i.toNat]? else none
theorem idxE {α:Type} {xs:List α} {i:Int} {x:α} (h:idx xs i=some x):0≤i∧xs[i.toNat]?=some x:=by
 unfold idx at h
 split at h
 ·exact ⟨by assumption,h⟩
 ·cases h
theorem z04a {α:Type} {xs:List α} {i:Nat} {x:α} (f:α→List PV) (h:xs[i]?=some x):(xs.map f)[i]?=some (f x):=by
 rw [List.getElem?_map,h];rfl
end
end Go.Proofs.YtimbigpplbbjaaaGreatDoor.Abs
