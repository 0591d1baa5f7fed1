/- Contracts by hand, in the form of the printed ones: lex.number and strings.IndexByte return what the Lean functions beside them say; of number the two error variables of strconv must lie as interface values. -/
import Derived.Test.YtjcbedgpmjgcdaaDoorShelf
import Derived.Test.YtjcbedgpmjgcdaaDoorWWords
import Derived.Lib.Hide
import Derived.Lib.AtoiErrMem
import Derived.Deep.DeepFit
namespace Go.Proofs.YtjcbedgpmjgcdaaDoor.Hand
open Go.RowKit Go.Proofs.YtjcbedgpmjgcdaaDoorW.PrintWords Go.Shelf
set_option linter.unusedVariables false
set_option linter.unusedSimpArgs false

/-- A byte as an int is the byte. -/
theorem wrap_u8 (x : Int) : wrap64 (x % 256) = x % 256 := by unfold wrap64; omega
/-- One cell written twice reads as what was written last. -/
theorem cell?_setCell_twice (w : World) (a : Addr) (u v : Value) (h : (w.cell? a).isSome = true) : ((w.setCell a u).setCell a v).cell? a = some v :=
  World.cell?_setCell_same' _ _ _ (by rw [World.cell?_setCell_same' _ _ _ h]; rfl)

/-- strconv's two error variables hold interface values. -/
def Laid (w : World) : Prop :=
  (∃ te pe, w.cell? ⟨3, 0, none⟩ = some (.iface te pe)) ∧ (∃ te pe, w.cell? ⟨4, 0, none⟩ = some (.iface te pe))
theorem Laid.at {w W : World} (hL : Aside0 (Laid w)) (h : Below w.heap.size w W) : Aside0 (Laid W) := ⟨by
  obtain ⟨⟨te, pe, h1⟩, ⟨te2, pe2, h2⟩⟩ := hL.out
  exact ⟨⟨te, pe, pw_cell_below h h1⟩, ⟨te2, pe2, pw_cell_below h h2⟩⟩⟩
theorem Laid.below {w w' : World} (h : Laid w) (hb : Below w.heap.size w w') : Laid w' := by
  obtain ⟨⟨te, pe, h1⟩, ⟨te2, pe2, h2⟩⟩ := h
  exact ⟨⟨te, pe, pw_cell_below hb h1⟩, ⟨te2, pe2, pw_cell_below hb h2⟩⟩

/-! ### strings.IndexByte -/
def strings_IndexByte.f (a0 : ByteArray) (a1 : Int) : Option Int := some (Lib.indexByte a0.data.toList a1.toNat.toUInt8)
theorem strings_IndexByte.calls (a0 : ByteArray) (a1 : Int) (r : Int) (w : World) (h : strings_IndexByte.f a0 a1 = some r) :
    Calls Tryd.prog 60 #[.string a0, .int .u8 a1] w fun e w' => e = .returned (.int .i64 r) ∧ Drawn0 w w' := by
  obtain rfl := Option.some.inj h
  refine (Tryd.strings_IndexByte a0 a1 w).mono ?_
  rintro e w' ⟨rfl, rfl⟩
  exact ⟨rfl, Drawn0.refl _⟩

/-! ### lex.number -/
def digs : List UInt8 := [48, 49, 50, 51, 52, 53, 54, 55, 56, 57]
def lex_number.f (a0 : ByteArray) : Option (Int × Int) :=
  if a0.size ≤ 140737488351232 then
    (if Lib.trimS a0.data.toList digs ≠ [] ∨ (1 < a0.size ∧ bt a0 0 = 48) then some (0, 3)
     else match Lib.parseIntB 32 a0.data.toList with
      | .ok v => some (v, 0)
      | _ => some (0, 3))
  else none

theorem trim_calls (s : ByteArray) (w : World) (hs : s.size ≤ 9223372036854775807) :
    Calls Tryd.prog 58 #[.string s, .string ⟨#[48, 49, 50, 51, 52, 53, 54, 55, 56, 57]⟩] w fun e w' => e = .returned (.string ⟨(Lib.trimS s.data.toList digs).toArray⟩) ∧ Below w.heap.size w w' :=
  Any.strings_Trim_laid Tryd.lays160 (by kernel_rfl) s ⟨#[48, 49, 50, 51, 52, 53, 54, 55, 56, 57]⟩ w hs (by decide) (ascii_of_all (by decide))

set_option maxRecDepth 100000 in
set_option maxHeartbeats 1000000 in
theorem number_trim (s : ByteArray) (w : World) (hs : s.size ≤ 140737488351232) (ht : Lib.trimS s.data.toList digs ≠ []) :
    Calls Tryd.prog 53 #[.string s] w fun e w' => e = .returned (.tuple #[.int .i64 0, .int .i64 3]) ∧ Below w.heap.size w w' := by
  have hcon := Lib.hid (trim_calls s w (by omega))
  have hne : ((⟨(Lib.trimS s.data.toList digs).toArray⟩ : ByteArray).toList.isEmpty) = false := by simpa using ht
  generalize (⟨(Lib.trimS s.data.toList digs).toArray⟩ : ByteArray) = r at hcon hne
  have hne2 : !r.toList.isEmpty := by simp [hne]
  have hne3 : ¬ (r.toList = []) := by intro h; rw [h] at hne; simp at hne
  go_enter Tryd.func53, Tryd.ntmps53
  go_wp2_with (go_at_call 58; refine hcon.out.mono ?_; rintro e w' ⟨rfl, hB⟩)
  go_ret2
  exact ⟨rfl, hB⟩

set_option maxRecDepth 100000 in
set_option maxHeartbeats 1000000 in
theorem number_nought (s : ByteArray) (w : World) (hs : s.size ≤ 140737488351232) (ht : Lib.trimS s.data.toList digs = []) (h1 : 1 < s.size) (h0 : bt s 0 = 48) :
    Calls Tryd.prog 53 #[.string s] w fun e w' => e = .returned (.tuple #[.int .i64 0, .int .i64 3]) ∧ Below w.heap.size w w' := by
  have hcon := trim_calls s w (by omega)
  rw [ht] at hcon
  have hcon := Lib.hid hcon
  have h2 := bt_at s 0
  rw [h0] at h2
  have h3 := h2 (by omega)
  have h3' : ((s[0].toNat : Int) == 48) = true := by simpa using h3
  clear h2 h0 ht h3
  go_enter Tryd.func53, Tryd.ntmps53
  go_wp2_with (go_at_call 58; refine hcon.out.mono ?_; rintro e w' ⟨rfl, hB⟩)
  go_ret2
  exact ⟨rfl, hB⟩
set_option maxRecDepth 100000 in
set_option maxHeartbeats 1000000 in
theorem number_okA (s : ByteArray) (w : World) (v : Int) (hs : s.size ≤ 140737488351232) (ht : Lib.trimS s.data.toList digs = []) (h1 : ¬ 1 < s.size) (hp : Lib.parseIntB 32 s.data.toList = .ok v) :
    Calls Tryd.prog 53 #[.string s] w fun e w' => e = .returned (.tuple #[.int .i64 v, .int .i64 0]) ∧ Below w.heap.size w w' := by
  have hcon := trim_calls s w (by omega)
  rw [ht] at hcon
  have hcon := Lib.hid hcon
  clear ht
  have hc2 := Lib.hid (fun (W : World) => Tryd.strconv_ParseInt_10_at32_ok s (by omega) v hp W)
  clear hp
  go_enter Tryd.func53, Tryd.ntmps53
  go_wp2_with (first | (go_at_call 58; refine hcon.out.mono ?_; rintro e w' ⟨rfl, hB⟩) | (go_at_call 59; refine (hc2.out _).mono ?_; rintro e w2 ⟨rfl, hq⟩))
  go_ret2
  exact ⟨rfl, by
    rcases hq with rfl | ⟨t, rfl⟩
    · exact hB
    · exact below_then hB hB.size (Lib.bytesWorld_below _ _ _)⟩

set_option maxRecDepth 100000 in
set_option maxHeartbeats 1000000 in
theorem number_okB (s : ByteArray) (w : World) (v : Int) (hs : s.size ≤ 140737488351232) (ht : Lib.trimS s.data.toList digs = []) (h1 : 1 < s.size) (h0 : bt s 0 ≠ 48) (hp : Lib.parseIntB 32 s.data.toList = .ok v) :
    Calls Tryd.prog 53 #[.string s] w fun e w' => e = .returned (.tuple #[.int .i64 v, .int .i64 0]) ∧ Below w.heap.size w w' := by
  have hcon := trim_calls s w (by omega)
  rw [ht] at hcon
  have hcon := Lib.hid hcon
  have h2 := bt_at s 0 (by simpa using (by omega : 0 < s.size))
  have h3 : ((s[0].toNat : Int) == 48) = false := by
    rw [beq_eq_false_iff_ne]; intro hh; exact h0 (h2.symm.trans hh)
  clear h2 h0 ht
  have hc2 := Lib.hid (fun (W : World) => Tryd.strconv_ParseInt_10_at32_ok s (by omega) v hp W)
  clear hp
  go_enter Tryd.func53, Tryd.ntmps53
  go_wp2_with (first | (go_at_call 58; refine hcon.out.mono ?_; rintro e w' ⟨rfl, hB⟩) | (go_at_call 59; refine (hc2.out _).mono ?_; rintro e w2 ⟨rfl, hq⟩))
  go_ret2
  exact ⟨rfl, by
    rcases hq with rfl | ⟨t, rfl⟩
    · exact hB
    · exact below_then hB hB.size (Lib.bytesWorld_below _ _ _)⟩

set_option maxRecDepth 100000 in
set_option maxHeartbeats 1000000 in
theorem number_synA (s : ByteArray) (w : World)  (hs : s.size ≤ 140737488351232) (ht : Lib.trimS s.data.toList digs = []) (h1 : ¬ 1 < s.size) (hL : Laid w) (hp : Lib.parseIntB 32 s.data.toList = Lib.NumEnd.ofOption none) :
    Calls Tryd.prog 53 #[.string s] w fun e w' => e = .returned (.tuple #[.int .i64 0, .int .i64 3]) ∧ Below w.heap.size w w' := by
  have hcon := trim_calls s w (by omega)
  rw [ht] at hcon
  have hcon := Lib.hid hcon
  clear ht
  have hc2 := Lib.hid (fun (W : World) (ev : Value) (hv : W.cell? ⟨3, 0, none⟩ = some ev) (hev : ev = .nilIface ∨ ∃ te pe, ev = .iface te pe) => Tryd.strconv_ParseInt_10_at32_none s (by omega) hp ev W hv hev)
  have hL := Lib.hid hL
  clear hp
  go_enter Tryd.func53, Tryd.ntmps53
  go_wp2_with (first | (go_at_call 58; refine hcon.out.mono ?_; rintro e w' ⟨rfl, hB⟩) | (go_at_call 59; obtain ⟨⟨te, pe, hv⟩, -⟩ := hL.out.below hB; have hv := Lib.hid hv; refine (hc2.out _ _ (by exact hv.out) (.inr ⟨te, pe, rfl⟩)).mono ?_; rintro e w2 ⟨N, rfl, -, -, hb2⟩))
  go_ret2
  exact ⟨rfl, below_then hB hB.size hb2⟩

set_option maxRecDepth 100000 in
set_option maxHeartbeats 1000000 in
theorem number_synB (s : ByteArray) (w : World)  (hs : s.size ≤ 140737488351232) (ht : Lib.trimS s.data.toList digs = []) (h1 : 1 < s.size) (h0 : bt s 0 ≠ 48) (hL : Laid w) (hp : Lib.parseIntB 32 s.data.toList = Lib.NumEnd.ofOption none) :
    Calls Tryd.prog 53 #[.string s] w fun e w' => e = .returned (.tuple #[.int .i64 0, .int .i64 3]) ∧ Below w.heap.size w w' := by
  have hcon := trim_calls s w (by omega)
  rw [ht] at hcon
  have hcon := Lib.hid hcon
  have h2 := bt_at s 0 (by simpa using (by omega : 0 < s.size))
  have h3 : ((s[0].toNat : Int) == 48) = false := by
    rw [beq_eq_false_iff_ne]; intro hh; exact h0 (h2.symm.trans hh)
  clear h2 h0 ht
  have hc2 := Lib.hid (fun (W : World) (ev : Value) (hv : W.cell? ⟨3, 0, none⟩ = some ev) (hev : ev = .nilIface ∨ ∃ te pe, ev = .iface te pe) => Tryd.strconv_ParseInt_10_at32_none s (by omega) hp ev W hv hev)
  have hL := Lib.hid hL
  clear hp
  go_enter Tryd.func53, Tryd.ntmps53
  go_wp2_with (first | (go_at_call 58; refine hcon.out.mono ?_; rintro e w' ⟨rfl, hB⟩) | (go_at_call 59; obtain ⟨⟨te, pe, hv⟩, -⟩ := hL.out.below hB; have hv := Lib.hid hv; refine (hc2.out _ _ (by exact hv.out) (.inr ⟨te, pe, rfl⟩)).mono ?_; rintro e w2 ⟨N, rfl, -, -, hb2⟩))
  go_ret2
  exact ⟨rfl, below_then hB hB.size hb2⟩

set_option maxRecDepth 100000 in
set_option maxHeartbeats 1000000 in
theorem number_rngA (s : ByteArray) (w : World)  (hs : s.size ≤ 140737488351232) (ht : Lib.trimS s.data.toList digs = []) (h1 : ¬ 1 < s.size) (hL : Laid w) (hp : Lib.parseIntB 32 s.data.toList = .range) :
    Calls Tryd.prog 53 #[.string s] w fun e w' => e = .returned (.tuple #[.int .i64 0, .int .i64 3]) ∧ Below w.heap.size w w' := by
  have hcon := trim_calls s w (by omega)
  rw [ht] at hcon
  have hcon := Lib.hid hcon
  clear ht
  have hc2 := Lib.hid (fun (W : World) (ev : Value) (hv : W.cell? ⟨4, 0, none⟩ = some ev) (hev : ev = .nilIface ∨ ∃ te pe, ev = .iface te pe) => Tryd.strconv_ParseInt_10_at32_range s (by omega) hp ev W hv hev)
  have hL := Lib.hid hL
  clear hp
  go_enter Tryd.func53, Tryd.ntmps53
  go_wp2_with (first | (go_at_call 58; refine hcon.out.mono ?_; rintro e w' ⟨rfl, hB⟩) | (go_at_call 59; obtain ⟨-, ⟨te, pe, hv⟩⟩ := hL.out.below hB; have hv := Lib.hid hv; refine (hc2.out _ _ (by exact hv.out) (.inr ⟨te, pe, rfl⟩)).mono ?_; rintro e w2 ⟨N, rfl, -, -, hb2⟩))
  go_ret2
  exact ⟨rfl, below_then hB hB.size hb2⟩

set_option maxRecDepth 100000 in
set_option maxHeartbeats 1000000 in
theorem number_rngB (s : ByteArray) (w : World)  (hs : s.size ≤ 140737488351232) (ht : Lib.trimS s.data.toList digs = []) (h1 : 1 < s.size) (h0 : bt s 0 ≠ 48) (hL : Laid w) (hp : Lib.parseIntB 32 s.data.toList = .range) :
    Calls Tryd.prog 53 #[.string s] w fun e w' => e = .returned (.tuple #[.int .i64 0, .int .i64 3]) ∧ Below w.heap.size w w' := by
  have hcon := trim_calls s w (by omega)
  rw [ht] at hcon
  have hcon := Lib.hid hcon
  have h2 := bt_at s 0 (by simpa using (by omega : 0 < s.size))
  have h3 : ((s[0].toNat : Int) == 48) = false := by
    rw [beq_eq_false_iff_ne]; intro hh; exact h0 (h2.symm.trans hh)
  clear h2 h0 ht
  have hc2 := Lib.hid (fun (W : World) (ev : Value) (hv : W.cell? ⟨4, 0, none⟩ = some ev) (hev : ev = .nilIface ∨ ∃ te pe, ev = .iface te pe) => Tryd.strconv_ParseInt_10_at32_range s (by omega) hp ev W hv hev)
  have hL := Lib.hid hL
  clear hp
  go_enter Tryd.func53, Tryd.ntmps53
  go_wp2_with (first | (go_at_call 58; refine hcon.out.mono ?_; rintro e w' ⟨rfl, hB⟩) | (go_at_call 59; obtain ⟨-, ⟨te, pe, hv⟩⟩ := hL.out.below hB; have hv := Lib.hid hv; refine (hc2.out _ _ (by exact hv.out) (.inr ⟨te, pe, rfl⟩)).mono ?_; rintro e w2 ⟨N, rfl, -, -, hb2⟩))
  go_ret2
  exact ⟨rfl, below_then hB hB.size hb2⟩

theorem lex_number.calls (a0 : ByteArray) (r1 : Int) (r2 : Int) (w : World) (h : lex_number.f a0 = some (r1, r2)) (hL : Aside0 (Laid w)) :
    Calls Tryd.prog 53 #[.string a0] w fun e w' => e = .returned (.tuple #[.int .i64 r1, .int .i64 r2]) ∧ Below w.heap.size w w' := by
  unfold lex_number.f at h
  by_cases hs : a0.size ≤ 140737488351232
  · rw [if_pos hs] at h
    by_cases ht : Lib.trimS a0.data.toList digs = []
    · by_cases h1 : 1 < a0.size
      · by_cases h0 : bt a0 0 = 48
        · rw [if_pos (.inr ⟨h1, h0⟩)] at h
          obtain ⟨rfl, rfl⟩ := Prod.mk.inj (Option.some.inj h)
          exact number_nought a0 w hs ht h1 h0
        · rw [if_neg (by rintro (h | ⟨_, h⟩); exact h ht; exact h0 h)] at h
          rcases hp : Lib.parseIntB 32 a0.data.toList with v | _ | _
          · rw [hp] at h; obtain ⟨rfl, rfl⟩ := Prod.mk.inj (Option.some.inj h); exact number_okB a0 w _ hs ht h1 h0 hp
          · rw [hp] at h; obtain ⟨rfl, rfl⟩ := Prod.mk.inj (Option.some.inj h); exact number_synB a0 w hs ht h1 h0 hL.out hp
          · rw [hp] at h; obtain ⟨rfl, rfl⟩ := Prod.mk.inj (Option.some.inj h); exact number_rngB a0 w hs ht h1 h0 hL.out hp
      · rw [if_neg (by rintro (h | ⟨h, _⟩); exact h ht; exact h1 h)] at h
        rcases hp : Lib.parseIntB 32 a0.data.toList with v | _ | _
        · rw [hp] at h; obtain ⟨rfl, rfl⟩ := Prod.mk.inj (Option.some.inj h); exact number_okA a0 w _ hs ht h1 hp
        · rw [hp] at h; obtain ⟨rfl, rfl⟩ := Prod.mk.inj (Option.some.inj h); exact number_synA a0 w hs ht h1 hL.out hp
        · rw [hp] at h; obtain ⟨rfl, rfl⟩ := Prod.mk.inj (Option.some.inj h); exact number_rngA a0 w hs ht h1 hL.out hp
    · rw [if_pos (.inl ht)] at h
      obtain ⟨rfl, rfl⟩ := Prod.mk.inj (Option.some.inj h)
      exact number_trim a0 w hs ht
  · rw [if_neg hs] at h; cases h
end Go.Proofs.YtjcbedgpmjgcdaaDoor.Hand
