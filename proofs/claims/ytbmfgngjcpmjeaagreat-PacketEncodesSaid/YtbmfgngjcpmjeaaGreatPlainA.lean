/- Plain models: bits and tag trees. -/
import Derived.Laws.Sem
import Derived.Test.YtbmfgngjcpmjeaaGreatEngC
/- Plain: bits, written and read. -/
set_option linter.unusedVariables false
set_option linter.unusedSimpArgs false
namespace Go.Eng
open Go
def bwRoom (l : List Nat) : Nat := if l.getLast? = some 255 then 7 else 8
def bwStep (s : List Nat × Nat) (b : Bool) : List Nat × Nat :=
  if s.2 = 0 then (s.1 ++ [cond b (2 ^ (bwRoom s.1 - 1)) 0], bwRoom s.1 - 1)
  else (s.1.dropLast ++ [s.1.getLast?.getD 0 + cond b (2 ^ (s.2 - 1)) 0], s.2 - 1)
def bw (bs : List Bool) : List Nat × Nat := bs.foldl bwStep ([], 0)
theorem bw_snoc (bs : List Bool) (b : Bool) : bw (bs ++ [b]) = bwStep (bw bs) b := by simp [bw]
theorem bwRoom_cases (l : List Nat) : bwRoom l = 7 ∨ bwRoom l = 8 := by unfold bwRoom; split <;> simp
def BwOk (s : List Nat × Nat) : Prop := s.2 ≤ 7 ∧ (∀ x ∈ s.1, x < 256) ∧ (s.2 ≠ 0 → ∃ l x, s.1 = l ++ [x] ∧ x % 2 ^ s.2 = 0 ∧ s.2 < bwRoom l)
theorem pow_cases {r : Nat} (h : r ≤ 8) : r = 0 ∧ 2 ^ r = 1 ∨ r = 1 ∧ 2 ^ r = 2 ∨ r = 2 ∧ 2 ^ r = 4 ∨ r = 3 ∧ 2 ^ r = 8 ∨ r = 4 ∧ 2 ^ r = 16 ∨ r = 5 ∧ 2 ^ r = 32 ∨ r = 6 ∧ 2 ^ r = 64 ∨ r = 7 ∧ 2 ^ r = 128 ∨ r = 8 ∧ 2 ^ r = 256 := by
  have : r = 0 ∨ r = 1 ∨ r = 2 ∨ r = 3 ∨ r = 4 ∨ r = 5 ∨ r = 6 ∨ r = 7 ∨ r = 8 := by omega
  rcases this with rfl | rfl | rfl | rfl | rfl | rfl | rfl | rfl | rfl <;> simp
theorem bit_room {x r : Nat} (hr : 0 < r) (hr8 : r ≤ 8) (hx : x < 256) (h : x % 2 ^ r = 0) (b : Bool) : x + cond b (2 ^ (r - 1)) 0 < 256 ∧ (x + cond b (2 ^ (r - 1)) 0) % 2 ^ (r - 1) = 0 := by
  have : r = 1 ∨ r = 2 ∨ r = 3 ∨ r = 4 ∨ r = 5 ∨ r = 6 ∨ r = 7 ∨ r = 8 := by omega
  rcases this with rfl | rfl | rfl | rfl | rfl | rfl | rfl | rfl <;> cases b <;> simp at h ⊢ <;> omega
theorem bwOk_step {s : List Nat × Nat} (h : BwOk s) (b : Bool) : BwOk (bwStep s b) := by
  obtain ⟨h1, h2, h3⟩ := h
  unfold bwStep
  split
  · have hc := bwRoom_cases s.1
    have h0 := bit_room (x := 0) (r := bwRoom s.1) (by omega) (by omega) (by omega) (by simp) b
    rw [Nat.zero_add] at h0
    refine ⟨by dsimp only; omega, ?_, fun _ => ⟨_, _, rfl, h0.2, by dsimp only; omega⟩⟩
    intro x hx
    simp only [List.mem_append, List.mem_singleton] at hx
    rcases hx with hx | rfl
    · exact h2 x hx
    · exact h0.1
  · rename_i hne
    obtain ⟨l, x, hl, hx, hrm⟩ := h3 hne
    have h0 := bit_room (x := x) (r := s.2) (by omega) (by omega) (h2 x (by rw [hl]; simp)) hx b
    refine ⟨by dsimp only; omega, ?_, fun _ => ⟨_, _, rfl, ?_, ?_⟩⟩
    · intro y hy
      rw [hl] at hy
      simp at hy
      rcases hy with hy | rfl
      · exact h2 y (by rw [hl]; simp [hy])
      · exact h0.1
    · dsimp only
      rw [hl]
      simpa using h0.2
    · dsimp only
      rw [hl, List.dropLast_concat]
      omega
theorem bw_ok (bs : List Bool) : BwOk (bw bs) := by
  have : ∀ (bs : List Bool) (s : List Nat × Nat), BwOk s → BwOk (bs.foldl bwStep s) := by
    intro bs
    induction bs with
    | nil => intro s h; exact h
    | cons b bs ih => intro s h; exact ih _ (bwOk_step h b)
  exact this bs _ ⟨by simp, by simp, by simp⟩
theorem bw_length (bs : List Bool) : (bw bs).1.length ≤ bs.length := by
  have : ∀ (bs : List Bool) (s : List Nat × Nat), BwOk s → (bs.foldl bwStep s).1.length ≤ s.1.length + bs.length := by
    intro bs
    induction bs with
    | nil => intro s h; simp
    | cons b bs ih =>
      intro s h
      have h1 := ih _ (bwOk_step h b)
      have h2 : (bwStep s b).1.length ≤ s.1.length + 1 := by
        unfold bwStep
        split
        · simp
        · simp only [List.length_append, List.length_dropLast, List.length_singleton]; omega
      simp only [List.foldl_cons, List.length_cons]
      omega
  simpa [bw] using this bs ([], 0) ⟨by simp, by simp, by simp⟩
def pack (bs : List Bool) : List Nat := if (bw bs).1.getLast? = some 255 then (bw bs).1 ++ [0] else (bw bs).1
def bitsOf (n : Int) (size : Int) : List Bool :=
  if size < 1 ∨ 32 < size then [] else (List.range size.toNat).reverse.map fun k => decide (n / 2 ^ k % 2 = 1)
theorem bits_rev (n : Int) (s j : Nat) (hj : j < s) : ((List.range s).reverse.map fun k => decide (n / 2 ^ k % 2 = 1)).take (s - j) =
    ((List.range s).reverse.map fun k => decide (n / 2 ^ k % 2 = 1)).take (s - (j + 1)) ++ [decide (n / 2 ^ j % 2 = 1)] := by
  have e : s - j = (s - (j + 1)) + 1 := by omega
  rw [e, List.take_succ_eq_append_getElem (by simp; omega)]
  congr 2
  simp
  have : s - 1 - (s - (j + 1)) = j := by omega
  rw [this]
end Go.Eng
/- Plain: words and their bits. -/
set_option linter.unusedVariables false
set_option linter.unusedSimpArgs false
namespace Go.Eng
open Go
theorem bits_i64 : IntKind.i64.bits = 64 := rfl
theorem bits_u8 : IntKind.u8.bits = 8 := rfl
theorem and_one (a : Int) : bitk .i64 (· &&& ·) a 1 = a % 2 := by
  unfold bitk
  have h1 : (BitVec.ofInt 64 a &&& BitVec.ofInt 64 1).toNat = ((a % 2).toNat) := by
    rw [BitVec.toNat_and, BitVec.toNat_ofInt, BitVec.toNat_ofInt]
    have : ((1 : Int) % ((2 ^ 64 : Nat) : Int)).toNat = 1 := by decide
    rw [this, Nat.and_one_is_mod]
    have e : ((2 ^ 64 : Nat) : Int) = 18446744073709551616 := by decide
    rw [e]
    omega
  show IntKind.i64.wrap ((BitVec.ofInt 64 a &&& BitVec.ofInt 64 1).toNat : Int) = _
  rw [h1, wrap64_id (by omega) (by omega)]
  omega
theorem or_u8 {x y : Nat} (hx : x < 256) (hy : y < 256) : bitk .u8 (· ||| ·) (x : Int) (y : Int) = ((x ||| y : Nat) : Int) := by
  unfold bitk
  have h1 : (BitVec.ofInt 8 (x : Int) ||| BitVec.ofInt 8 (y : Int)).toNat = x ||| y := by
    rw [BitVec.toNat_or, BitVec.toNat_ofInt, BitVec.toNat_ofInt]
    have e : ((2 ^ 8 : Nat) : Int) = 256 := by decide
    rw [e]
    congr 1 <;> omega
  show IntKind.u8.wrap ((BitVec.ofInt 8 (x : Int) ||| BitVec.ofInt 8 (y : Int)).toNat : Int) = _
  have h2 : x ||| y < 256 := Nat.or_lt_two_pow (n := 8) hx hy
  rw [h1, wrapu8_id (by omega) (by omega)]
theorem or_room {x r : Nat} (hr : 0 < r) (h : x % 2 ^ r = 0) (b : Bool) : x ||| cond b (2 ^ (r - 1)) 0 = x + cond b (2 ^ (r - 1)) 0 := by
  cases b
  · simp
  · simp only [cond_true]
    have h1 : x = 2 ^ r * (x / 2 ^ r) := by have := Nat.div_add_mod x (2 ^ r); omega
    have h2 : 2 ^ (r - 1) < 2 ^ r := Nat.pow_lt_pow_right (by omega) (by omega)
    have := Nat.two_pow_add_eq_or_of_lt h2 (x / 2 ^ r)
    rw [← h1] at this
    exact this.symm
theorem bwRoom_7 {l : List Nat} (h : ((l.getLast?.getD 0 : Nat) : Int) = 255) : bwRoom l = 7 := by
  unfold bwRoom
  rw [if_pos]
  cases hl : l.getLast? with
  | none => rw [hl] at h; simp at h
  | some x => rw [hl] at h; simp at h; congr 1; omega
theorem bwRoom_8 {l : List Nat} (h : ¬ ((l.getLast?.getD 0 : Nat) : Int) = 255) : bwRoom l = 8 := by
  unfold bwRoom
  rw [if_neg]
  intro hc; rw [hc] at h; simp at h
def Mid (s : List Nat × Nat) (l : List Nat) (rm : Nat) : Prop :=
  1 ≤ rm ∧ rm ≤ 8 ∧ l.length ≠ 0 ∧ l.getLast?.getD 0 < 256 ∧ l.getLast?.getD 0 % 2 ^ rm = 0 ∧ l.length ≤ s.1.length + 1 ∧ ∀ b, bwStep s b = (l.dropLast ++ [l.getLast?.getD 0 + cond b (2 ^ (rm - 1)) 0], rm - 1)
theorem mid_more {s : List Nat × Nat} (h : BwOk s) (h0 : s.2 ≠ 0) : Mid s s.1 s.2 := by
  obtain ⟨h1, h2, h3⟩ := h
  obtain ⟨l, x, hl, hx, _⟩ := h3 h0
  refine ⟨by omega, by omega, by rw [hl]; simp, ?_, ?_, by omega, fun b => ?_⟩
  · rw [hl]; simp; exact h2 x (by rw [hl]; simp)
  · rw [hl]; simpa using hx
  · unfold bwStep; rw [if_neg h0]
theorem mid_new {s : List Nat × Nat} (h0 : s.2 = 0) {rm : Nat} (hr : bwRoom s.1 = rm) : Mid s (s.1 ++ [0]) rm := by
  subst hr
  have := bwRoom_cases s.1
  refine ⟨by omega, by omega, by simp, by simp, by simp, by simp, fun b => ?_⟩
  unfold bwStep; rw [if_pos h0]; simp
theorem u8s_last {l : List Nat} (h : l.length ≠ 0) : (u8s l)[((l.length : Int) - 1).toNat * 1]? = some (.int .u8 ((l.getLast?.getD 0 : Nat) : Int)) := by
  apply u8s_get
  rw [List.getLast?_eq_getElem?]
  have e : ((l.length : Int) - 1).toNat * 1 = l.length - 1 := by omega
  rw [e, List.getElem?_eq_getElem (by omega)]
  simp
theorem u8s_setlast {l : List Nat} {x : Nat} (h : l.length ≠ 0) : (u8s l).set (((l.length : Int) - 1).toNat * 1) (.int .u8 (x : Int)) = u8s (l.dropLast ++ [x]) := by
  rw [u8s_set]
  congr 1
  have e : ((l.length : Int) - 1).toNat * 1 = l.length - 1 := by omega
  rw [e, List.set_eq_take_append_cons_drop, if_pos (by omega), List.dropLast_eq_take]
  congr 1
  simp
  omega
theorem shl_bit {a : Int} {r : Nat} (hr : 1 ≤ r) (h8 : r ≤ 8) :
    IntKind.u8.wrap (IntKind.u8.wrap (bitk .i64 (· &&& ·) a 1) * 2 ^ min ((r : Int) - 1).toNat IntKind.u8.bits) = ((cond (decide (a % 2 = 1)) (2 ^ (r - 1)) 0 : Nat) : Int) := by
  rw [and_one, bits_u8]
  have h0 : a % 2 = 0 ∨ a % 2 = 1 := by omega
  have e : min ((r : Int) - 1).toNat 8 = r - 1 := by omega
  rw [e]
  have h2 : (2 : Nat) ^ (r - 1) < 256 := by rcases pow_cases (r := r - 1) (by omega) with h | h | h | h | h | h | h | h | h <;> omega
  rcases h0 with h0 | h0
  · rw [h0, wrapu8_id (z := 0) (by omega) (by omega), Int.zero_mul, wrapu8_id (by omega) (by omega)]; simp
  · rw [h0]
    simp only [decide_true, cond_true]
    rw [wrapu8_id (z := 1) (by omega) (by omega), Int.one_mul]
    have : ((2 : Int) ^ (r - 1)) = ((2 ^ (r - 1) : Nat) : Int) := by simp
    rw [this]
    generalize (2 : Nat) ^ (r - 1) = p at *
    rw [wrapu8_id (by omega) (by omega)]
theorem set_bit {s : List Nat × Nat} {l : List Nat} {r : Nat} {a : Int} (h : Mid s l r) :
    (u8s l).set (((l.length : Int) - 1).toNat * 1) (.int .u8 (bitk .u8 (· ||| ·) ((l.getLast?.getD 0 : Nat) : Int) (IntKind.u8.wrap (IntKind.u8.wrap (bitk .i64 (· &&& ·) a 1) * 2 ^ min ((r : Int) - 1).toNat IntKind.u8.bits)))) =
      u8s (bwStep s (decide (a % 2 = 1))).1 := by
  obtain ⟨h1, h2, h3, h4, h5, h6, h7⟩ := h
  rw [shl_bit h1 h2]
  have h8 := bit_room (x := 0) h1 h2 (by omega) (by simp) (decide (a % 2 = 1))
  rw [Nat.zero_add] at h8
  rw [or_u8 h4 h8.1, or_room h1 h5, u8s_setlast h3, h7]
theorem wrapu64_id {z : Int} (h1 : 0 ≤ z) (h2 : z ≤ 18446744073709551615) : IntKind.u64.wrap z = z := by
  simp [IntKind.wrap, IntKind.bits, IntKind.signed]
  omega
theorem or_i64 {x y : Nat} (hx : x < 4294967296) (hy : y < 4294967296) : bitk .i64 (· ||| ·) (x : Int) (y : Int) = ((x ||| y : Nat) : Int) := by
  unfold bitk
  have h1 : (BitVec.ofInt 64 (x : Int) ||| BitVec.ofInt 64 (y : Int)).toNat = x ||| y := by
    rw [BitVec.toNat_or, BitVec.toNat_ofInt, BitVec.toNat_ofInt]
    have e : ((2 ^ 64 : Nat) : Int) = 18446744073709551616 := by decide
    rw [e]
    congr 1 <;> omega
  show IntKind.i64.wrap ((BitVec.ofInt 64 (x : Int) ||| BitVec.ofInt 64 (y : Int)).toNat : Int) = _
  have h2 : x ||| y < 4294967296 := Nat.or_lt_two_pow (n := 32) hx hy
  rw [h1, wrap64_id (by omega) (by omega)]
theorem shl_bit64 {a : Int} {r : Nat} (hr : 1 ≤ r) (h8 : r ≤ 8) :
    IntKind.i64.wrap (bitk .i64 (· &&& ·) a 1 * 2 ^ min (IntKind.u64.wrap ((r : Int) - 1)).toNat IntKind.i64.bits) = ((cond (decide (a % 2 = 1)) (2 ^ (r - 1)) 0 : Nat) : Int) := by
  rw [and_one, bits_i64, wrapu64_id (by omega) (by omega)]
  have h0 : a % 2 = 0 ∨ a % 2 = 1 := by omega
  have e : min ((r : Int) - 1).toNat 64 = r - 1 := by omega
  rw [e]
  have h2 : (2 : Nat) ^ (r - 1) < 256 := by rcases pow_cases (r := r - 1) (by omega) with h | h | h | h | h | h | h | h | h <;> omega
  rcases h0 with h0 | h0
  · rw [h0, Int.zero_mul, wrap64_id (by omega) (by omega)]; simp
  · rw [h0]
    simp only [decide_true, cond_true]
    rw [Int.one_mul]
    have : ((2 : Int) ^ (r - 1)) = ((2 ^ (r - 1) : Nat) : Int) := by simp
    rw [this]
    generalize (2 : Nat) ^ (r - 1) = p at *
    rw [wrap64_id (by omega) (by omega)]
def rwB (s : List Nat × Nat) : List Nat := if s.2 = 0 then s.1 else s.1.dropLast
def rwCur (s : List Nat × Nat) : Nat := if s.2 = 0 then 0 else s.1.getLast?.getD 0
def rwFree (s : List Nat × Nat) : Nat := if s.2 = 0 then bwRoom s.1 else s.2
theorem rw_ok {s : List Nat × Nat} (h : BwOk s) : 1 ≤ rwFree s ∧ rwFree s ≤ 8 ∧ rwCur s < 256 ∧ rwCur s % 2 ^ rwFree s = 0 ∧ (rwB s).length ≤ s.1.length ∧
    ∀ b, bwStep s b = (rwB s ++ [rwCur s + cond b (2 ^ (rwFree s - 1)) 0], rwFree s - 1) := by
  unfold rwB rwCur rwFree
  have hc := bwRoom_cases s.1
  by_cases h0 : s.2 = 0
  · simp only [if_pos h0]
    refine ⟨by omega, by omega, by omega, by simp, by omega, fun b => ?_⟩
    unfold bwStep; rw [if_pos h0, Nat.zero_add]
  · simp only [if_neg h0]
    obtain ⟨h1, h2, h3⟩ := h
    obtain ⟨l, x, hl, hx, _⟩ := h3 h0
    refine ⟨by omega, by omega, ?_, ?_, by simp, fun b => ?_⟩
    · rw [hl]; simp; exact h2 x (by rw [hl]; simp)
    · rw [hl]; simpa using hx
    · unfold bwStep; rw [if_neg h0]
theorem or_bit64 {x r : Nat} {a : Int} (hr : 1 ≤ r) (h8 : r ≤ 8) (hx : x < 256) (hm : x % 2 ^ r = 0) :
    bitk .i64 (· ||| ·) (x : Int) (IntKind.i64.wrap (bitk .i64 (· &&& ·) a 1 * 2 ^ min (IntKind.u64.wrap ((r : Int) - 1)).toNat IntKind.i64.bits)) = ((x + cond (decide (a % 2 = 1)) (2 ^ (r - 1)) 0 : Nat) : Int) := by
  rw [shl_bit64 hr h8]
  have h1 := bit_room (x := 0) hr h8 (by omega) (by simp) (decide (a % 2 = 1))
  rw [Nat.zero_add] at h1
  rw [or_i64 (by omega) (by omega), or_room hr hm]
theorem rw_full {s : List Nat × Nat} {B : List Nat} {c : Nat} (h : s = (B ++ [c], 0)) : rwB s = B ++ [c] ∧ rwCur s = 0 ∧ rwFree s = if c = 255 then 7 else 8 := by
  subst h
  refine ⟨rfl, rfl, ?_⟩
  unfold rwFree bwRoom
  simp
theorem rw_room {s : List Nat × Nat} {B : List Nat} {c f : Nat} (h : s = (B ++ [c], f)) (hf : f ≠ 0) : rwB s = B ∧ rwCur s = c ∧ rwFree s = f := by
  subst h
  unfold rwB rwCur rwFree
  simp [hf]
theorem rw_whole {s : List Nat × Nat} (h : BwOk s) : s.1 = if rwFree s < bwRoom (rwB s) then rwB s ++ [rwCur s] else rwB s := by
  obtain ⟨h1, h2, h3⟩ := h
  unfold rwFree rwB rwCur
  by_cases h0 : s.2 = 0
  · simp only [if_pos h0]
    rw [if_neg (by omega)]
  · simp only [if_neg h0]
    obtain ⟨l, x, hl, _, hr⟩ := h3 h0
    rw [hl]
    simp [hr]
theorem last_255 {l : List Nat} (h : ((l.getLast?.getD 0 : Nat) : Int) = 255) : l.getLast? = some 255 := by
  cases hl : l.getLast? with
  | none => rw [hl] at h; simp at h
  | some x => rw [hl] at h; simp at h; congr 1; omega
theorem last_not {l : List Nat} (h : ¬ ((l.getLast?.getD 0 : Nat) : Int) = 255) : ¬ l.getLast? = some 255 := by
  intro hc; rw [hc] at h; simp at h
theorem one_snoc {l : List Nat} {x : Int} : ∀ v ∈ u8s l ++ [.int .u8 x], one? v = true := by
  intro v hv
  rcases List.mem_append.1 hv with h | h
  · exact one_u8s v h
  · simp at h; subst h; rfl
end Go.Eng
/- Plain: tag trees. -/
set_option linter.unusedVariables false
set_option linter.unusedSimpArgs false
namespace Go.Eng
open Go
structure Nd where
  n : Int
  low : Int
  said : Bool
def encN (x : Nd) : List Value := [.int .i64 x.n, .int .i64 x.low, .bool x.said]
theorem encN_len (x : Nd) : (encN x).length = 3 := rfl
def shp : Nat → Nat → Nat → List (Nat × Nat)
  | 0, _, _ => []
  | f + 1, w, h => (w, h) :: (if w = 1 ∧ h = 1 then [] else shp f ((w + 1) / 2) ((h + 1) / 2))
def tshape (w h : Nat) : List (Nat × Nat) := if w = 0 ∨ h = 0 then [] else shp (w + h) w h
def total : List (Nat × Nat) → Nat
  | [] => 0
  | s :: sh => s.1 * s.2 + total sh
def offs : List (Nat × Nat) → Nat → Nat
  | _, 0 => 0
  | [], _ => 0
  | s :: sh, i + 1 => s.1 * s.2 + offs sh i
def parent (w k : Nat) : Nat := k / w / 2 * ((w + 1) / 2) + k % w / 2
def fpath : List (Nat × Nat) → Nat → Nat → List Nat
  | [], _, _ => []
  | s :: sh, o, k => (o + k) :: fpath sh (o + s.1 * s.2) (parent s.1 k)
theorem fpath_length : ∀ (sh : List (Nat × Nat)) (o k : Nat), (fpath sh o k).length = sh.length := by
  intro sh
  induction sh with
  | nil => intro o k; rfl
  | cons s sh ih => intro o k; simp [fpath, ih]
def Halves : List (Nat × Nat) → Prop
  | [] => True
  | [s] => 0 < s.1 ∧ 0 < s.2
  | s :: s' :: sh => 0 < s.1 ∧ 0 < s.2 ∧ s'.1 = (s.1 + 1) / 2 ∧ s'.2 = (s.2 + 1) / 2 ∧ Halves (s' :: sh)
theorem Halves.tail {s : Nat × Nat} {sh : List (Nat × Nat)} (h : Halves (s :: sh)) : Halves sh := by
  cases sh with
  | nil => trivial
  | cons s' sh => exact h.2.2.2.2
theorem Halves.pos {s : Nat × Nat} {sh : List (Nat × Nat)} (h : Halves (s :: sh)) : 0 < s.1 ∧ 0 < s.2 := by
  cases sh with
  | nil => exact h
  | cons s' sh => exact ⟨h.1, h.2.1⟩
theorem shp_halves : ∀ (f w h : Nat), 0 < w → 0 < h → Halves (shp f w h) := by
  intro f
  induction f with
  | zero => intro w h _ _; trivial
  | succ f ih =>
    intro w h hw hh
    simp only [shp]
    split
    · exact ⟨hw, hh⟩
    · have := ih ((w + 1) / 2) ((h + 1) / 2) (by omega) (by omega)
      cases f with
      | zero => exact ⟨hw, hh⟩
      | succ f => exact ⟨hw, hh, rfl, rfl, this⟩
theorem tshape_halves (w h : Nat) : Halves (tshape w h) := by
  unfold tshape
  split
  · trivial
  · exact shp_halves _ _ _ (by omega) (by omega)
theorem parent_lt {w h k : Nat} (hw : 0 < w) (hk : k < w * h) : parent w k < (w + 1) / 2 * ((h + 1) / 2) := by
  unfold parent
  have h1 : k / w < h := Nat.div_lt_of_lt_mul hk
  have h2 : k % w < w := Nat.mod_lt _ hw
  have h3 : k / w / 2 < (h + 1) / 2 := by omega
  have h4 : k % w / 2 < (w + 1) / 2 := by omega
  generalize (w + 1) / 2 = a at *
  generalize (h + 1) / 2 = b at *
  generalize k / w / 2 = c at *
  have h5 : c * a + a ≤ a * b := by
    have : (c + 1) * a ≤ b * a := Nat.mul_le_mul_right _ h3
    rw [Nat.mul_comm a b]; rw [Nat.add_mul] at this; omega
  omega
theorem fpath_get : ∀ (sh : List (Nat × Nat)) (o k : Nat), Halves sh → (∀ s, sh.head? = some s → k < s.1 * s.2) → ∀ i s, sh[i]? = some s →
    ∃ j, (fpath sh o k)[i]? = some (o + offs sh i + j) ∧ j < s.1 * s.2 := by
  intro sh
  induction sh with
  | nil => intro o k _ _ i s h; simp at h
  | cons s0 sh ih =>
    intro o k hH hk i s hi
    have hk0 := hk s0 rfl
    cases i with
    | zero =>
      simp at hi; subst hi
      exact ⟨k, by simp [fpath, offs], hk0⟩
    | succ i =>
      simp at hi
      have hk' : ∀ s, sh.head? = some s → parent s0.1 k < s.1 * s.2 := by
        intro s hs
        cases sh with
        | nil => simp at hs
        | cons s1 sh =>
          simp at hs; subst hs
          rw [hH.2.2.1, hH.2.2.2.1]
          exact parent_lt hH.1 hk0
      obtain ⟨j, h1, h2⟩ := ih (o + s0.1 * s0.2) (parent s0.1 k) hH.tail hk' i s hi
      refine ⟨j, ?_, h2⟩
      simp only [fpath, List.getElem?_cons_succ, h1, offs]
      congr 1; omega
theorem fpath_xy : ∀ (sh : List (Nat × Nat)) (o x y : Nat), Halves sh → (∀ s, sh.head? = some s → x < s.1 ∧ y < s.2) → ∀ i s, sh[i]? = some s →
    (fpath sh o (match sh.head? with | some s => y * s.1 + x | none => 0))[i]? = some (o + offs sh i + (y / 2 ^ i * s.1 + x / 2 ^ i)) ∧ x / 2 ^ i < s.1 ∧ y / 2 ^ i < s.2 := by
  intro sh
  induction sh with
  | nil => intro o x y _ _ i s h; simp at h
  | cons s0 sh ih =>
    intro o x y hH hxy i s hi
    obtain ⟨hx, hy⟩ := hxy s0 rfl
    have hp := hH.pos
    cases i with
    | zero =>
      simp at hi; subst hi
      simp [fpath, offs, hx, hy]
    | succ i =>
      simp at hi
      have e1 : (y * s0.1 + x) / s0.1 = y := by
        rw [Nat.mul_comm, Nat.mul_add_div hp.1, Nat.div_eq_of_lt hx]; omega
      have e2 : (y * s0.1 + x) % s0.1 = x := by
        rw [Nat.mul_comm, Nat.mul_add_mod, Nat.mod_eq_of_lt hx]
      have hxy' : ∀ s, sh.head? = some s → x / 2 < s.1 ∧ y / 2 < s.2 := by
        intro s hs
        cases sh with
        | nil => simp at hs
        | cons s1 sh =>
          simp at hs; subst hs
          rw [hH.2.2.1, hH.2.2.2.1]
          omega
      have h3 := ih (o + s0.1 * s0.2) (x / 2) (y / 2) hH.tail hxy' i s hi
      have e3 : (match sh.head? with | some s => y / 2 * s.1 + x / 2 | none => 0) = parent s0.1 (y * s0.1 + x) := by
        unfold parent
        rw [e1, e2]
        cases sh with
        | nil => simp at hi
        | cons s1 sh => simp only [List.head?_cons]; rw [hH.2.2.1]
      rw [e3] at h3
      simp only [List.head?_cons, fpath, List.getElem?_cons_succ, offs]
      have e4 : 2 * 2 ^ i = 2 ^ (i + 1) := by rw [Nat.pow_succ]; omega
      rw [Nat.div_div_eq_div_mul, Nat.div_div_eq_div_mul, e4] at h3
      rw [h3.1]
      refine ⟨?_, h3.2⟩
      congr 1; omega
def leastStep (w h : Nat) (l : List Int) (x y : Nat) (a : Int) (d : Nat × Nat) : Int := if 2 * x + d.1 < w ∧ 2 * y + d.2 < h then min a (l.getD ((2 * y + d.2) * w + (2 * x + d.1)) 0) else a
def four : List (Nat × Nat) := [(0, 0), (1, 0), (0, 1), (1, 1)]
def leastUp (w h : Nat) (l : List Int) (x y n : Nat) : Int := (four.take n).foldl (leastStep w h l x y) (l.getD (2 * y * w + 2 * x) 0)
def leastOf (w h : Nat) (l : List Int) (x y : Nat) : Int := leastUp w h l x y 4
def up1 (w h : Nat) (l : List Int) : List Int :=
  (List.range ((w + 1) / 2 * ((h + 1) / 2))).map fun k => leastOf w h l (k % ((w + 1) / 2)) (k / ((w + 1) / 2))
def mins : List (Nat × Nat) → List Int → List Int
  | [], _ => []
  | s :: sh, l => l ++ mins sh (up1 s.1 s.2 l)
theorem up1_length (w h : Nat) (l : List Int) : (up1 w h l).length = (w + 1) / 2 * ((h + 1) / 2) := by simp [up1]
theorem mins_length : ∀ (sh : List (Nat × Nat)) (l : List Int), Halves sh → (∀ s, sh.head? = some s → l.length = s.1 * s.2) → (mins sh l).length = total sh := by
  intro sh
  induction sh with
  | nil => intro l _ _; rfl
  | cons s sh ih =>
    intro l hH hl
    simp only [mins, total, List.length_append]
    rw [hl s rfl, ih _ hH.tail]
    intro s' hs'
    cases sh with
    | nil => simp at hs'
    | cons s1 sh =>
      simp at hs'; subst hs'
      rw [up1_length, hH.2.2.1, hH.2.2.2.1]
def encLoop : Nat → Nd → List Bool × Nd
  | 0, x => ([], x)
  | f + 1, x => if x.said then ([], x) else if x.n ≤ x.low then ([true], { x with said := true }) else
      let r := encLoop f { x with low := x.low + 1 }
      (false :: r.1, r.2)
def encNode (x : Nd) (low bound : Int) : List Bool × Nd := encLoop (bound - max x.low low).toNat { x with low := max x.low low }
def encWay (bound : Int) : List Nat → List Nd → Int → List Bool × List Nd
  | [], T, _ => ([], T)
  | p :: ps, T, low =>
    let r := encNode (T.getD p ⟨0, 0, false⟩) low bound
    let r2 := encWay bound ps (T.set p r.2) r.2.low
    (r.1 ++ r2.1, r2.2)
def tway (sh : List (Nat × Nat)) (k : Int) : List Nat :=
  match sh.head? with
  | some s => if 0 ≤ k ∧ k < (s.1 * s.2 : Nat) then (fpath sh 0 k.toNat).reverse else []
  | none => []
def encT (sh : List (Nat × Nat)) (T : List Nd) (k bound : Int) : List Bool × List Nd := encWay bound (tway sh k) T 0
def fptr : List (Nat × Nat) → List Nat → Nat → List Value
  | s :: sh, p :: ps, k => .pointer (some ⟨p, k * 3, none⟩) :: fptr sh ps (parent s.1 k)
  | _, _, _ => []
def tptr (sh : List (Nat × Nat)) (ps : List Nat) (k : Int) : List Value :=
  match sh.head? with
  | some s => if 0 ≤ k ∧ k < (s.1 * s.2 : Nat) then (fptr sh ps k.toNat).reverse else []
  | none => []
theorem fptr_length : ∀ (sh : List (Nat × Nat)) (ps : List Nat) (k : Nat), ps.length = sh.length → (fptr sh ps k).length = sh.length := by
  intro sh
  induction sh with
  | nil => intro ps k h; cases ps <;> simp [fptr] at h ⊢
  | cons s sh ih =>
    intro ps k h
    cases ps with
    | nil => simp at h
    | cons p ps => simp only [fptr, List.length_cons]; rw [ih ps _ (by simpa using h)]
theorem tway_length {sh : List (Nat × Nat)} {ps : List Nat} {k : Int} (h : ps.length = sh.length) : (tptr sh ps k).length = (tway sh k).length := by
  unfold tptr tway
  cases sh.head? with
  | none => rfl
  | some s =>
    dsimp only
    split
    · rw [List.length_reverse, List.length_reverse, fptr_length _ _ _ h, fpath_length]
    · rfl
theorem fptr_fpath : ∀ (sh : List (Nat × Nat)) (ps : List Nat) (o k i p : Nat) (s : Nat × Nat), sh[i]? = some s → ps[i]? = some p → ∃ j, (fpath sh o k)[i]? = some (o + offs sh i + j) ∧ (fptr sh ps k)[i]? = some (.pointer (some ⟨p, j * 3, none⟩)) := by
  intro sh
  induction sh with
  | nil => intro ps o k i p s h; simp at h
  | cons s0 sh ih =>
    intro ps o k i p s hs hp
    cases ps with
    | nil => simp at hp
    | cons p0 ps =>
      cases i with
      | zero =>
        simp at hs hp
        subst hp
        exact ⟨k, by simp [fpath, offs], by simp [fptr]⟩
      | succ i =>
        simp at hs hp
        obtain ⟨j, h1, h2⟩ := ih ps (o + s0.1 * s0.2) (parent s0.1 k) i p s hs hp
        refine ⟨j, ?_, by simpa [fptr] using h2⟩
        simp only [fpath, List.getElem?_cons_succ, h1, offs]
        congr 1; omega
theorem fptr_xy {sh : List (Nat × Nat)} {ps : List Nat} {k i p : Nat} {s0 s : Nat × Nat} (hH : Halves sh) (h0 : sh[0]? = some s0) (hk : k < s0.1 * s0.2) (hs : sh[i]? = some s) (hp : ps[i]? = some p) :
    (fptr sh ps k)[i]? = some (.pointer (some ⟨p, (k / s0.1 / 2 ^ i * s.1 + k % s0.1 / 2 ^ i) * 3, none⟩)) ∧ k % s0.1 / 2 ^ i < s.1 ∧ k / s0.1 / 2 ^ i < s.2 := by
  have hh : sh.head? = some s0 := by rw [List.head?_eq_getElem?]; exact h0
  have hpos : 0 < s0.1 := by
    cases sh with
    | nil => simp at h0
    | cons a sh => simp at h0; subst h0; exact hH.pos.1
  have h1 := fpath_xy sh 0 (k % s0.1) (k / s0.1) hH (by intro s' hs'; rw [hh] at hs'; injection hs' with hs'; subst hs'; exact ⟨Nat.mod_lt _ hpos, Nat.div_lt_of_lt_mul hk⟩) i s hs
  rw [hh] at h1
  dsimp only at h1
  have e : k / s0.1 * s0.1 + k % s0.1 = k := by rw [Nat.mul_comm]; exact Nat.div_add_mod k s0.1
  rw [e] at h1
  obtain ⟨j, h2, h3⟩ := fptr_fpath sh ps 0 k i p s hs hp
  have e2 : j = k / s0.1 / 2 ^ i * s.1 + k % s0.1 / 2 ^ i := by
    have := h2.symm.trans h1.1
    injection this with this
    omega
  rw [← e2]
  exact ⟨h3, h1.2⟩
theorem idx_lt {x y w h : Nat} (hx : x < w) (hy : y < h) : y * w + x < w * h := by
  have : (y + 1) * w ≤ h * w := Nat.mul_le_mul_right _ hy
  rw [Nat.add_mul] at this
  rw [Nat.mul_comm w h]; omega
theorem way_at {sh : List (Nat × Nat)} {ps : List Nat} {k : Int} {j f : Nat} (hH : Halves sh) (hl : ps.length = sh.length) (h : (tway sh k)[j]? = some f) :
    ∃ i s p jj, sh[i]? = some s ∧ ps[i]? = some p ∧ jj < s.1 * s.2 ∧ f = offs sh i + jj ∧ (tptr sh ps k)[j]? = some (.pointer (some ⟨p, jj * 3, none⟩)) := by
  unfold tway at h
  unfold tptr
  cases hh : sh.head? with
  | none => rw [hh] at h; simp at h
  | some s0 =>
    rw [hh] at h
    dsimp only at h ⊢
    split at h
    · rename_i hk
      rw [if_pos hk]
      have hk' : k.toNat < s0.1 * s0.2 := by omega
      have hjl : j < (fpath sh 0 k.toNat).reverse.length := (List.getElem?_eq_some_iff.1 h).1
      have hjl' : j < sh.length := by rw [List.length_reverse, fpath_length] at hjl; exact hjl
      rw [List.getElem?_reverse (by rw [fpath_length]; exact hjl'), fpath_length] at h
      rw [List.getElem?_reverse (by rw [fptr_length _ _ _ hl]; exact hjl'), fptr_length _ _ _ hl]
      have hi : sh.length - 1 - j < sh.length := by omega
      obtain ⟨jj, h1, h2⟩ := fpath_get sh 0 k.toNat hH (by intro s hs; rw [hh] at hs; injection hs with hs; subst hs; exact hk') (sh.length - 1 - j) _ (List.getElem?_eq_getElem hi)
      have hi' : sh.length - 1 - j < ps.length := by omega
      obtain ⟨j2, h3, h4⟩ := fptr_fpath sh ps 0 k.toNat (sh.length - 1 - j) _ _ (List.getElem?_eq_getElem hi) (List.getElem?_eq_getElem hi')
      have e : j2 = jj := by
        have := h3.symm.trans h1
        injection this with this
        omega
      subst e
      refine ⟨sh.length - 1 - j, _, _, j2, List.getElem?_eq_getElem hi, List.getElem?_eq_getElem hi', h2, ?_, h4⟩
      have := h.symm.trans h1
      injection this with this
      omega
    · simp at h
theorem tway_none {sh : List (Nat × Nat)} {k : Int} (h : sh.length = 0 ∨ ∀ s, sh.head? = some s → k < 0) : tway sh k = [] := by
  unfold tway
  cases hh : sh.head? with
  | none => rfl
  | some s =>
    rcases h with h | h
    · have : sh = [] := List.eq_nil_of_length_eq_zero h
      subst this; simp at hh
    · dsimp only; rw [if_neg]; have := h s hh; omega
theorem tway_none0 {sh : List (Nat × Nat)} {k : Int} {s : Nat × Nat} (hs : sh[0]? = some s) (h : ((s.1 * s.2 : Nat) : Int) ≤ k) : tway sh k = [] := by
  unfold tway
  rw [List.head?_eq_getElem?, hs]
  dsimp only; rw [if_neg]; omega
theorem tway_some {sh : List (Nat × Nat)} {k : Nat} {s : Nat × Nat} (hs : sh[0]? = some s) (h : k < s.1 * s.2) : tway sh (k : Int) = (fpath sh 0 k).reverse := by
  unfold tway
  rw [List.head?_eq_getElem?, hs]
  dsimp only; rw [if_pos (by omega), Int.toNat_natCast]
theorem tptr_some {sh : List (Nat × Nat)} (ps : List Nat) {k : Nat} {s : Nat × Nat} (hs : sh[0]? = some s) (h : k < s.1 * s.2) : tptr sh ps (k : Int) = (fptr sh ps k).reverse := by
  unfold tptr
  rw [List.head?_eq_getElem?, hs]
  dsimp only; rw [if_pos (by omega), Int.toNat_natCast]
theorem halves_pos {sh : List (Nat × Nat)} (h : Halves sh) {s : Nat × Nat} (hs : sh[0]? = some s) : 0 < s.1 ∧ 0 < s.2 := by
  cases sh with
  | nil => simp at hs
  | cons a sh => simp at hs; subst hs; exact h.pos
def Fine (sh : List (Nat × Nat)) : Prop := Halves sh ∧ sh.length ≤ 60 ∧ ∀ (i : Nat) (s : Nat × Nat), sh[i]? = some s → s.1 * s.2 ≤ 100000
theorem shp_fine : ∀ (f w h : Nat), w ≤ 64 → h ≤ 64 → (shp f w h).length ≤ f ∧ ∀ (i : Nat) (s : Nat × Nat), (shp f w h)[i]? = some s → s.1 * s.2 ≤ 100000 := by
  intro f
  induction f with
  | zero => intro w h _ _; exact ⟨by simp [shp], by intro i s hi; simp [shp] at hi⟩
  | succ f ih =>
    intro w h hw hh
    have h1 := ih ((w + 1) / 2) ((h + 1) / 2) (by omega) (by omega)
    have hm := Nat.mul_le_mul hw hh
    simp only [shp]
    split
    · refine ⟨by simp, ?_⟩
      intro i s hi
      cases i with
      | zero => simp at hi; subst hi; dsimp only; omega
      | succ i => simp at hi
    · refine ⟨by simp; exact h1.1, ?_⟩
      intro i s hi
      cases i with
      | zero => simp at hi; subst hi; dsimp only; omega
      | succ i => simp at hi; exact h1.2 i s hi
theorem tshape_fine {w h : Nat} (hw : w ≤ 30) (hh : h ≤ 30) : Fine (tshape w h) := by
  refine ⟨tshape_halves w h, ?_⟩
  unfold tshape
  split
  · exact ⟨by simp, fun i s hi => by simp at hi⟩
  · have := shp_fine (w + h) w h (by omega) (by omega)
    exact ⟨by omega, this.2⟩
theorem shr_mod (a b i : Nat) : ((a : Int) % (b : Int)) / 2 ^ (i : Int).toNat = ((a % b / 2 ^ i : Nat) : Int) := by
  rw [Int.toNat_natCast]; simp
theorem shr_div (a b i : Nat) : ((a : Int) / (b : Int)) / 2 ^ (i : Int).toNat = ((a / b / 2 ^ i : Nat) : Int) := by
  rw [Int.toNat_natCast]; simp
theorem set_rev {n i : Nat} {z p : Value} {L : List Value} (h : i < n) : (List.replicate (n - i) z ++ L).set (n - 1 - i) p = List.replicate (n - (i + 1)) z ++ p :: L := by
  have e : n - i = (n - (i + 1)) + 1 := by omega
  rw [e, List.replicate_succ', List.append_assoc]
  have e2 : n - 1 - i = (List.replicate (n - (i + 1)) z).length + 0 := by simp; omega
  rw [e2, List.set_append_right _ _ (by omega)]
  simp
theorem take_rev {l : List Value} {i : Nat} {p : Value} (h : l[i]? = some p) : (l.take (i + 1)).reverse = p :: (l.take i).reverse := by
  have hlt := (List.getElem?_eq_some_iff.1 h).1
  rw [List.take_succ_eq_append_getElem hlt, List.reverse_append]
  have : l[i] = p := by rw [List.getElem?_eq_getElem hlt] at h; injection h
  simp [this]
theorem zeros_ptr (n : Nat) : zerosL [.pointer none] n = List.replicate n (.pointer none) := by
  induction n with
  | zero => rfl
  | succ n ih => simp only [zerosL, ih, List.replicate_succ]; rfl
theorem tway_le (sh : List (Nat × Nat)) (k : Int) : (tway sh k).length ≤ sh.length := by
  unfold tway
  cases sh.head? with
  | none => simp
  | some s =>
    dsimp only
    split
    · rw [List.length_reverse, fpath_length]; exact Nat.le_refl _
    · simp
theorem enc_stop {f : Nat} {x : Nd} {bound : Int} (hf : f = (bound - x.low).toNat) (h : bound ≤ x.low ∨ x.said = true) : encLoop f x = ([], x) := by
  cases f with
  | zero => rfl
  | succ f =>
    simp only [encLoop]
    rcases h with h | h
    · omega
    · rw [if_pos h]
theorem enc_one {f : Nat} {x : Nd} {bound : Int} (hf : f = (bound - x.low).toNat) (h : x.low < bound) (hs : x.said = false) (hn : x.n ≤ x.low) : encLoop f x = ([true], { x with said := true }) := by
  obtain ⟨f, rfl⟩ : ∃ g, f = g + 1 := ⟨f - 1, by omega⟩
  simp only [encLoop]
  rw [if_neg (by rw [hs]; simp), if_pos hn]
theorem enc_zero {f : Nat} {x : Nd} {bound : Int} (hf : f = (bound - x.low).toNat) (h : x.low < bound) (hs : x.said = false) (hn : ¬ x.n ≤ x.low) :
    encLoop f x = (false :: (encLoop (f - 1) { x with low := x.low + 1 }).1, (encLoop (f - 1) { x with low := x.low + 1 }).2) := by
  obtain ⟨f, rfl⟩ : ∃ g, f = g + 1 := ⟨f - 1, by omega⟩
  simp only [encLoop]
  rw [if_neg (by rw [hs]; simp), if_neg hn]
  rfl
theorem way_step {l : List Nat} {j f : Nat} {T : List Nd} {nd nd' : Nd} {low bound : Int} {c : List Bool} (h : l[j]? = some f) (hnd : T[f]? = some nd) (he : encNode nd low bound = (c, nd')) :
    encWay bound (l.drop j) T low = (c ++ (encWay bound (l.drop (j + 1)) (T.set f nd') nd'.low).1, (encWay bound (l.drop (j + 1)) (T.set f nd') nd'.low).2) := by
  have hlt := (List.getElem?_eq_some_iff.1 h).1
  have hx : l[j] = f := by rw [List.getElem?_eq_getElem hlt] at h; injection h
  rw [List.drop_eq_getElem_cons hlt, hx]
  simp only [encWay]
  have e : T.getD f ⟨0, 0, false⟩ = nd := by rw [List.getD_eq_getElem?_getD, hnd]; rfl
  rw [e, he]
theorem way_end {l : List Nat} {j : Nat} {T : List Nd} {low bound : Int} (h : l.length ≤ j) : encWay bound (l.drop j) T low = ([], T) := by
  rw [List.drop_of_length_le h]; rfl
theorem offs_lt : ∀ {sh : List (Nat × Nat)} {i : Nat} {s : Nat × Nat}, sh[i]? = some s → offs sh i + s.1 * s.2 ≤ total sh := by
  intro sh
  induction sh with
  | nil => intro i s h; simp at h
  | cons s0 sh ih =>
    intro i s h
    cases i with
    | zero => simp at h; subst h; simp [offs, total]
    | succ i => simp at h; have := ih h; simp only [offs, total]; omega
theorem set_at {α : Type} {T : List α} {f : Nat} {x y : α} (h : T[f]? = some y) : (T.set f x)[f]? = some x := by
  have hlt := (List.getElem?_eq_some_iff.1 h).1
  simp [hlt]
theorem least_next (w h : Nat) (l : List Int) (x y dx dy : Nat) (h1 : dx < 2) (h2 : dy < 2) : leastUp w h l x y (2 * dy + dx + 1) = leastStep w h l x y (leastUp w h l x y (2 * dy + dx)) (dx, dy) := by
  unfold leastUp
  have : dx = 0 ∨ dx = 1 := by omega
  have : dy = 0 ∨ dy = 1 := by omega
  rcases ‹dx = 0 ∨ dx = 1› with rfl | rfl <;> rcases ‹dy = 0 ∨ dy = 1› with rfl | rfl <;> simp [four, List.foldl]
def nsOf (sh : List (Nat × Nat)) (i : Nat) (s : Nat × Nat) (T : List Nd) : List Int := ((T.drop (offs sh i)).take (s.1 * s.2)).map (·.n)
theorem nsOf_get {sh : List (Nat × Nat)} {i j : Nat} {s : Nat × Nat} {T : List Nd} {nd : Nd} (hj : j < s.1 * s.2) (h : T[offs sh i + j]? = some nd) : (nsOf sh i s T).getD j 0 = nd.n := by
  unfold nsOf
  rw [List.getD_eq_getElem?_getD, List.getElem?_map, List.getElem?_take, if_pos hj, List.getElem?_drop, h]
  rfl
end Go.Eng
