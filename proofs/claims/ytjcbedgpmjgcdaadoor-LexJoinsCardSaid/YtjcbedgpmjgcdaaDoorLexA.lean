/- What lexing is, over lists of bytes, and small facts on bytes and rounds; no program in sight. -/
import Derived.Test.YtjcbedgpmjgcdaaDoorWMore
namespace Go.Proofs.YtjcbedgpmjgcdaaDoor.LexA
open Go.RowKit Go.Proofs.YtjcbedgpmjgcdaaDoorW.PrintWords Go.Proofs.YtjcbedgpmjgcdaaDoorW.PrintLast Go.Proofs.YtjcbedgpmjgcdaaDoorW.PrintMore

/-! ### Bytes -/
theorem size_list (s : ByteArray) : s.data.toList.length = s.size := by rw [Array.length_toList]; rfl
theorem bt_get (s : ByteArray) (i : Nat) (h : i < s.data.toList.length) : bt s (i : Int) = ((s.data.toList[i]).toNat : Int) := by
  have h' : i < s.size := by rw [← size_list]; exact h
  have := bt_at s (i : Int) (by simpa using h')
  rw [← this]; simp; rfl
theorem ext_list (s : ByteArray) (a b : Nat) : (s.extract a b).data.toList = (s.data.toList.take b).drop a := by simp [List.drop_take]
theorem ext_drop (s : ByteArray) (a : Nat) : (s.extract a s.size).data.toList = s.data.toList.drop a := by
  rw [ext_list, List.take_of_length_le (by rw [size_list]; omega)]
theorem app_list (s t : ByteArray) : (s ++ t).data.toList = s.data.toList ++ t.data.toList := by simp
theorem list_ext {s t : ByteArray} (h : s.data.toList = t.data.toList) : s = t := ByteArray.ext (Array.toList_inj.mp h)
theorem wrap_id {x : Int} (h0 : -9223372036854775808 ≤ x) (h1 : x ≤ 9223372036854775807) : wrap64 x = x := by unfold wrap64; omega
theorem u64_wrap (a : Int) : IntKind.u64.wrap a = a % 18446744073709551616 := by simp [IntKind.wrap, IntKind.signed, IntKind.bits]
theorem ev_eq {α : Type} {g : Nat → Option α} {r r' : α} (h : Ev g r) (e : r = r') : Ev g r' := e ▸ h
theorem ev_one {α : Type} {g : Nat → Option α} {r : α} (h : ∀ k, g (k + 1) = some r) : Ev g r := Ev.step (f := fun _ => some r) h (Ev.now r)

/-! ### What lexing is -/
abbrev Bs := List UInt8
def isL (b : UInt8) : Bool := decide (97 ≤ b.toNat) && decide (b.toNat ≤ 122)
def isD (b : UInt8) : Bool := decide (48 ≤ b.toNat) && decide (b.toNat ≤ 57)
def isA (b : UInt8) : Bool := isL b || isD b
def isB (b : UInt8) : Bool := b == 32 || b == 10
def runL (l : Bs) : Nat := (l.takeWhile isA).length
def resv : List Bs := [[99, 104, 97, 110], [98, 108, 111, 99, 107], [100, 114, 111, 112], [108, 111, 115, 115, 121], [102, 114, 111, 109], [116, 111], [114, 117, 108, 101], [112, 114, 111, 99], [118, 97, 114], [105, 102], [101, 108, 115, 101], [119, 104, 105, 108, 101], [115, 101, 110, 100], [114, 101, 99, 118], [97, 115, 115, 101, 114, 116], [105, 110, 112, 117, 116]]
def val (l : Bs) : Nat := l.foldl (fun a b => 10 * a + (b.toNat - 48)) 0
def okNum (t : Bs) : Bool := decide (t.length ≤ 10) && !(decide (1 < t.length) && t.head? == some 48) && t.all isD && decide (val t ≤ 2147483647)
def ones : Bs := [123, 125, 40, 41, 59, 44, 46, 61, 60, 62, 43, 45, 42, 47, 37]
def twos : Bs := [61, 33, 60, 62]
def signL (l : Bs) : Nat :=
  if l[1]? = some 61 ∧ l.head? ∈ twos.map some then 2 else if l.head? ∈ ones.map some then 1 else 0
structure W where
  kind : Int
  len : Nat
  num : Nat
/-- The word that a text begins with, or the error. -/
def word1 (l : Bs) : Except Int W :=
  match l with
  | [] => .error 2
  | b :: _ =>
    if isL b then (if 12 < runL l then .error 3 else .ok ⟨if l.take (runL l) ∈ resv then 4 else 1, runL l, 0⟩)
    else if isD b then (if okNum (l.take (runL l)) then .ok ⟨2, runL l, val (l.take (runL l))⟩ else .error 3)
    else if signL l = 0 then .error 2 else .ok ⟨3, signL l, 0⟩
theorem word1_cons (b : UInt8) (r : Bs) : word1 (b :: r) =
    if isL b then (if 12 < runL (b :: r) then .error 3 else .ok ⟨if (b :: r).take (runL (b :: r)) ∈ resv then 4 else 1, runL (b :: r), 0⟩)
    else if isD b then (if okNum ((b :: r).take (runL (b :: r))) then .ok ⟨2, runL (b :: r), val ((b :: r).take (runL (b :: r)))⟩ else .error 3)
    else if signL (b :: r) = 0 then .error 2 else .ok ⟨3, signL (b :: r), 0⟩ := rfl
structure Tok where
  kind : Int
  text : Bs
  num : Nat
  at_ : Nat
/-- All words from a place on, and the error with its place. -/
def lexS (l : Bs) (p : Nat) : List Tok × Option (Nat × Int) :=
  match l with
  | [] => ([], none)
  | b :: r =>
    if isB b then lexS r (p + 1)
    else match word1 (b :: r) with
      | .error e => ([], some (p, e))
      | .ok w => let z := lexS (r.drop (w.len - 1)) (p + w.len); (⟨w.kind, (b :: r).take w.len, w.num, p⟩ :: z.1, z.2)
termination_by l.length
decreasing_by all_goals (simp; try omega)
/-- What is told. -/
def told (size : Nat) (z : List Tok × Option (Nat × Int)) : List Tok × Int × Int :=
  match z.2 with
  | some (p, e) => ([], (p : Int), e)
  | none => if 2000 < z.1.length then ([], (size : Int), 4) else (z.1, 0, 0)

/-! ### Facts -/
theorem runL_le (l : Bs) : runL l ≤ l.length := by
  unfold runL; have := List.takeWhile_prefix (p := isA) (l := l); exact this.length_le
theorem runL_cons (b : UInt8) (l : Bs) : runL (b :: l) = if isA b then runL l + 1 else 0 := by
  unfold runL; rw [List.takeWhile_cons]; split <;> simp
theorem runL_take (l : Bs) : l.take (runL l) = l.takeWhile isA := by
  unfold runL
  have := List.takeWhile_prefix (p := isA) (l := l)
  exact (List.prefix_iff_eq_take.mp this).symm
theorem runL_pos {b : UInt8} {l : Bs} (h : isA b = true) : 0 < runL (b :: l) := by rw [runL_cons, if_pos h]; omega
theorem signL_le (l : Bs) : signL l ≤ l.length := by
  unfold signL
  split
  · rename_i h; have := (List.getElem?_eq_some_iff.mp h.1).1; omega
  · split
    · rename_i h; cases l with
      | nil => simp at h
      | cons a t => simp
    · omega
theorem word1_len {l : Bs} {w : W} (h : word1 l = .ok w) : 0 < w.len ∧ w.len ≤ l.length := by
  cases l with
  | nil => simp [word1] at h
  | cons b r =>
    simp only [word1] at h
    split at h
    · rename_i hb; split at h
      · cases h
      · cases h; exact ⟨runL_pos (by simp [isA, hb]), runL_le _⟩
    · split at h
      · rename_i hb; split at h
        · cases h; exact ⟨runL_pos (by simp [isA, hb]), runL_le _⟩
        · cases h
      · split at h
        · cases h
        · rename_i hz; cases h; exact ⟨by simp; omega, signL_le _⟩
theorem lexS_nil (p : Nat) : lexS [] p = ([], none) := by rw [lexS]
theorem lexS_blank {b : UInt8} (r : Bs) (p : Nat) (h : isB b = true) : lexS (b :: r) p = lexS r (p + 1) := by rw [lexS, if_pos h]
theorem lexS_error {b : UInt8} {r : Bs} {p : Nat} {e : Int} (h : isB b = false) (hw : word1 (b :: r) = .error e) : lexS (b :: r) p = ([], some (p, e)) := by
  rw [lexS, if_neg (by simp [h]), hw]
theorem lexS_ok {b : UInt8} {r : Bs} {p : Nat} {w : W} (h : isB b = false) (hw : word1 (b :: r) = .ok w) :
    lexS (b :: r) p = (⟨w.kind, (b :: r).take w.len, w.num, p⟩ :: (lexS ((b :: r).drop w.len) (p + w.len)).1, (lexS ((b :: r).drop w.len) (p + w.len)).2) := by
  rw [lexS, if_neg (by simp [h]), hw]
  have := (word1_len hw).1
  have e : (b :: r).drop w.len = r.drop (w.len - 1) := by
    obtain ⟨n, hn⟩ : ∃ n, w.len = n + 1 := ⟨w.len - 1, by omega⟩
    rw [hn]; simp
  rw [e]

/-! ### Numbers -/
def dstep (a : Nat) (b : UInt8) : Nat := 10 * a + (b.toNat - 48)
theorem foldl_ge (l : Bs) : ∀ a, a * 10 ^ l.length ≤ l.foldl dstep a := by
  induction l with
  | nil => intro a; simp
  | cons b r ih =>
    intro a
    have h := ih (dstep a b)
    simp only [List.foldl_cons, List.length_cons]
    refine Nat.le_trans ?_ h
    rw [Nat.pow_succ, Nat.mul_comm (10 ^ r.length) 10, ← Nat.mul_assoc]
    exact Nat.mul_le_mul_right _ (by unfold dstep; omega)
theorem foldl_lt (l : Bs) (h : ∀ b ∈ l, isD b = true) : ∀ a, l.foldl dstep a < (a + 1) * 10 ^ l.length := by
  induction l with
  | nil => intro a; simp
  | cons b r ih =>
    intro a
    have hr := ih (fun x hx => h x (List.mem_cons_of_mem _ hx)) (dstep a b)
    have hb := h b List.mem_cons_self
    simp only [List.foldl_cons, List.length_cons]
    refine Nat.lt_of_lt_of_le hr ?_
    rw [Nat.pow_succ, Nat.mul_comm (10 ^ r.length) 10, ← Nat.mul_assoc]
    refine Nat.mul_le_mul_right _ ?_
    unfold dstep
    simp only [isD, Bool.and_eq_true, decide_eq_true_eq] at hb
    omega
theorem val_eq (l : Bs) : val l = l.foldl dstep 0 := rfl
end Go.Proofs.YtjcbedgpmjgcdaaDoor.LexA
