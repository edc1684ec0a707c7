/- Plain models: trees, segments, packets. -/
import Derived.Test.YtbmfgngjcpmjeaaGreatPlainA
/- Plain: a tag tree's numbers above the leaves. -/
set_option linter.unusedVariables false
set_option linter.unusedSimpArgs false
namespace Go.Eng
open Go
def mk0 (l : List Int) : List Nd := l.map fun n => ⟨n, 0, false⟩
def lev : List (Nat × Nat) → List Int → Nat → List Int
  | _ :: _, l, 0 => l
  | s :: sh, l, j + 1 => lev sh (up1 s.1 s.2 l) j
  | [], _, _ => []
theorem leastUp_congr {w h : Nat} {l l' : List Int} {x y : Nat} (hx : 2 * x < w) (hy : 2 * y < h)
    (he : ∀ dx dy, dx < 2 → dy < 2 → 2 * x + dx < w → 2 * y + dy < h → l.getD ((2 * y + dy) * w + (2 * x + dx)) 0 = l'.getD ((2 * y + dy) * w + (2 * x + dx)) 0) : ∀ n, leastUp w h l x y n = leastUp w h l' x y n := by
  intro n
  unfold leastUp
  have h0 := he 0 0 (by omega) (by omega) (by omega) (by omega)
  simp only [Nat.add_zero] at h0
  rw [h0]
  have key : ∀ (ds : List (Nat × Nat)) (a : Int), (∀ d ∈ ds, d.1 < 2 ∧ d.2 < 2) → ds.foldl (leastStep w h l x y) a = ds.foldl (leastStep w h l' x y) a := by
    intro ds
    induction ds with
    | nil => intro a _; rfl
    | cons d ds ih =>
      intro a hd
      simp only [List.foldl_cons]
      have e : leastStep w h l x y a d = leastStep w h l' x y a d := by
        unfold leastStep
        split
        · rename_i hc
          have := hd d (List.mem_cons_self)
          rw [he d.1 d.2 this.1 this.2 hc.1 hc.2]
        · rfl
      rw [e]
      exact ih _ fun d hd' => hd d (List.mem_cons_of_mem _ hd')
  exact key _ _ fun d hd => by
    have : d ∈ four := List.mem_of_mem_take hd
    simp [four] at this
    rcases this with rfl | rfl | rfl | rfl <;> simp
theorem row_col {w a b q : Nat} (hb : b < w) (h : a * w + b = q) : q / w = a ∧ q % w = b := by
  subst h
  rw [Nat.mul_comm]
  exact ⟨by rw [Nat.mul_add_div (by omega), Nat.div_eq_of_lt hb]; omega, by rw [Nat.mul_add_mod, Nat.mod_eq_of_lt hb]⟩
theorem up1_set {w h q : Nat} {l : List Int} {v : Int} (hw : 0 < w) (hh : 0 < h) (hl : l.length = w * h) (hq : q < w * h) :
    up1 w h (l.set q v) = (up1 w h l).set (parent w q) (leastOf w h (l.set q v) (q % w / 2) (q / w / 2)) := by
  apply List.ext_getElem?
  intro m
  have hpq := parent_lt (h := h) hw hq
  by_cases hm : m < (w + 1) / 2 * ((h + 1) / 2)
  · have e1 : (up1 w h (l.set q v))[m]? = some (leastOf w h (l.set q v) (m % ((w + 1) / 2)) (m / ((w + 1) / 2))) := by
      unfold up1; simp [hm]
    rw [e1]
    have hx : m % ((w + 1) / 2) < (w + 1) / 2 := Nat.mod_lt _ (by omega)
    have hy : m / ((w + 1) / 2) < (h + 1) / 2 := Nat.div_lt_of_lt_mul hm
    by_cases hmq : m = parent w q
    · subst hmq
      have hxq : q % w / 2 < (w + 1) / 2 := by have := Nat.mod_lt q hw; omega
      have e2 := row_col hxq (show q / w / 2 * ((w + 1) / 2) + q % w / 2 = parent w q from rfl)
      rw [e2.1, e2.2]
      rw [List.getElem?_set_self (by rw [up1_length]; exact hm)]
    · rw [List.getElem?_set_ne (fun e => hmq e.symm)]
      have e3 : (up1 w h l)[m]? = some (leastOf w h l (m % ((w + 1) / 2)) (m / ((w + 1) / 2))) := by
        unfold up1; simp [hm]
      rw [e3]
      congr 1
      refine leastUp_congr (by omega) (by omega) ?_ 4
      intro dx dy h1 h2 h3 h4
      rw [List.getD_eq_getElem?_getD, List.getD_eq_getElem?_getD, List.getElem?_set_ne]
      intro he
      apply hmq
      obtain ⟨h5, h6⟩ := row_col h3 he.symm
      unfold parent
      rw [h5, h6]
      have h7 : (2 * (m / ((w + 1) / 2)) + dy) / 2 = m / ((w + 1) / 2) := by omega
      have h8 : (2 * (m % ((w + 1) / 2)) + dx) / 2 = m % ((w + 1) / 2) := by omega
      rw [h7, h8, Nat.mul_comm]
      exact (Nat.div_add_mod m ((w + 1) / 2)).symm
  · rw [List.getElem?_eq_none (by rw [up1_length]; omega), List.getElem?_eq_none (by rw [List.length_set, up1_length]; omega)]
def way1 : List (Nat × Nat) → Nat → Nat → Nat
  | _, k, 0 => k
  | s :: sh, k, j + 1 => way1 sh (parent s.1 k) j
  | [], k, _ => k
theorem lev_len : ∀ {sh : List (Nat × Nat)} {l : List Int} {j : Nat} {s : Nat × Nat}, Halves sh → (∀ s, sh.head? = some s → l.length = s.1 * s.2) → sh[j]? = some s → (lev sh l j).length = s.1 * s.2 := by
  intro sh
  induction sh with
  | nil => intro l j s _ _ h; simp at h
  | cons s0 sh ih =>
    intro l j s hH hl hs
    cases j with
    | zero => simp at hs; subst hs; exact hl s0 rfl
    | succ j =>
      simp at hs
      refine ih hH.tail ?_ hs
      intro s1 hs1
      cases sh with
      | nil => simp at hs1
      | cons s2 sh => simp at hs1; subst hs1; rw [up1_length, hH.2.2.1, hH.2.2.2.1]
theorem mins_lev : ∀ {sh : List (Nat × Nat)} {l : List Int} {j : Nat} {s : Nat × Nat}, Halves sh → (∀ s, sh.head? = some s → l.length = s.1 * s.2) → sh[j]? = some s → ((mins sh l).drop (offs sh j)).take (s.1 * s.2) = lev sh l j := by
  intro sh
  induction sh with
  | nil => intro l j s _ _ h; simp at h
  | cons s0 sh ih =>
    intro l j s hH hl hs
    cases j with
    | zero =>
      simp at hs; subst hs
      simp only [mins, offs, List.drop_zero, lev]
      rw [List.take_append_of_le_length (by rw [hl s0 rfl]; exact Nat.le_refl _), List.take_of_length_le (by rw [hl s0 rfl]; exact Nat.le_refl _)]
    | succ j =>
      simp at hs
      simp only [mins, offs, lev]
      rw [← ih (j := j) (s := s) hH.tail ?_ hs]
      · rw [List.drop_append, List.drop_of_length_le (by rw [hl s0 rfl]; omega), List.nil_append, hl s0 rfl]
        congr 2; omega
      · intro s1 hs1
        cases sh with
        | nil => simp at hs1
        | cons s2 sh => simp at hs1; subst hs1; rw [up1_length, hH.2.2.1, hH.2.2.2.1]
theorem lev_up : ∀ {sh : List (Nat × Nat)} {l : List Int} {j : Nat} {s s' : Nat × Nat}, sh[j]? = some s → sh[j + 1]? = some s' → lev sh l (j + 1) = up1 s.1 s.2 (lev sh l j) := by
  intro sh
  induction sh with
  | nil => intro l j s s' h; simp at h
  | cons s0 sh ih =>
    intro l j s s' hs hs'
    cases j with
    | zero =>
      simp at hs hs'; subst hs
      cases sh with
      | nil => simp at hs'
      | cons s1 sh => simp [lev]
    | succ j =>
      simp at hs hs'
      have := ih (l := up1 s0.1 s0.2 l) hs hs'
      simpa [lev] using this
theorem lev_set : ∀ {sh : List (Nat × Nat)} {l : List Int} {k : Nat} {n : Int}, Halves sh → (∀ s, sh.head? = some s → l.length = s.1 * s.2 ∧ k < s.1 * s.2) → ∀ {j : Nat} {s : Nat × Nat}, sh[j]? = some s →
    ∃ v, lev sh (l.set k n) j = (lev sh l j).set (way1 sh k j) v := by
  intro sh
  induction sh with
  | nil => intro l k n _ _ j s h; simp at h
  | cons s0 sh ih =>
    intro l k n hH hl j s hs
    obtain ⟨h1, h2⟩ := hl s0 rfl
    cases j with
    | zero => exact ⟨n, rfl⟩
    | succ j =>
      simp at hs
      simp only [lev, way1]
      rw [up1_set hH.pos.1 hH.pos.2 h1 h2]
      refine ih hH.tail ?_ hs
      intro s1 hs1
      cases sh with
      | nil => simp at hs1
      | cons s2 sh =>
        simp at hs1; subst hs1
        refine ⟨by rw [up1_length, hH.2.2.1, hH.2.2.2.1], ?_⟩
        rw [hH.2.2.1, hH.2.2.2.1]
        exact parent_lt hH.pos.1 h2
theorem fpath_way1 : ∀ {sh : List (Nat × Nat)} {o k j : Nat} {s : Nat × Nat}, sh[j]? = some s → (fpath sh o k)[j]? = some (o + offs sh j + way1 sh k j) := by
  intro sh
  induction sh with
  | nil => intro o k j s h; simp at h
  | cons s0 sh ih =>
    intro o k j s hs
    cases j with
    | zero => simp [fpath, offs, way1]
    | succ j =>
      simp at hs
      simp only [fpath, List.getElem?_cons_succ, offs, way1]
      rw [ih hs]; congr 1; omega
theorem way1_xy {sh : List (Nat × Nat)} {k j : Nat} {s0 s : Nat × Nat} (hH : Halves sh) (h0 : sh[0]? = some s0) (hk : k < s0.1 * s0.2) (hs : sh[j]? = some s) :
    way1 sh k j = k / s0.1 / 2 ^ j * s.1 + k % s0.1 / 2 ^ j ∧ k % s0.1 / 2 ^ j < s.1 ∧ k / s0.1 / 2 ^ j < s.2 := by
  have hh : sh.head? = some s0 := by rw [List.head?_eq_getElem?]; exact h0
  have hpos := halves_pos hH h0
  have h1 := fpath_xy sh 0 (k % s0.1) (k / s0.1) hH (by intro s' hs'; rw [hh] at hs'; injection hs' with hs'; subst hs'; exact ⟨Nat.mod_lt _ hpos.1, Nat.div_lt_of_lt_mul hk⟩) j s hs
  rw [hh] at h1
  dsimp only at h1
  have e : k / s0.1 * s0.1 + k % s0.1 = k := by rw [Nat.mul_comm]; exact Nat.div_add_mod k s0.1
  rw [e, fpath_way1 hs] at h1
  obtain ⟨h2, h3, h4⟩ := h1
  injection h2 with h2
  exact ⟨by omega, h3, h4⟩
theorem offs_succ : ∀ {sh : List (Nat × Nat)} {j : Nat} {s : Nat × Nat}, sh[j]? = some s → offs sh (j + 1) = offs sh j + s.1 * s.2 := by
  intro sh
  induction sh with
  | nil => intro j s h; simp at h
  | cons s0 sh ih =>
    intro j s hs
    cases j with
    | zero =>
      simp at hs; subst hs
      cases sh <;> simp [offs]
    | succ j =>
      simp at hs
      have := ih hs
      simp only [offs] at this ⊢
      rw [this]; omega
theorem lev_step {sh : List (Nat × Nat)} {l : List Int} {k j : Nat} {n : Int} {s0 s s' : Nat × Nat} (hH : Halves sh) (h0 : sh[0]? = some s0) (hl : l.length = s0.1 * s0.2) (hk : k < s0.1 * s0.2) (hs : sh[j]? = some s) (hs' : sh[j + 1]? = some s') :
    lev sh (l.set k n) (j + 1) = (lev sh l (j + 1)).set (k / s0.1 / 2 ^ (j + 1) * s'.1 + k % s0.1 / 2 ^ (j + 1)) (leastOf s.1 s.2 (lev sh (l.set k n) j) (k % s0.1 / 2 ^ (j + 1)) (k / s0.1 / 2 ^ (j + 1))) := by
  have hh : ∀ s, sh.head? = some s → l.length = s.1 * s.2 ∧ k < s.1 * s.2 := by
    intro s hs1
    rw [List.head?_eq_getElem?, h0] at hs1
    injection hs1 with hs1; subst hs1; exact ⟨hl, hk⟩
  obtain ⟨v, hv⟩ := lev_set (n := n) hH hh hs
  have h1 := way1_xy hH h0 hk hs
  have h2 := way1_xy hH h0 hk hs'
  have hlen := lev_len hH (fun s hs => (hh s hs).1) hs
  have hq : way1 sh k j < s.1 * s.2 := by rw [h1.1]; exact idx_lt h1.2.1 h1.2.2
  rw [lev_up hs hs', lev_up hs hs', hv, up1_set (Nat.lt_of_le_of_lt (Nat.zero_le _) h1.2.1) (Nat.lt_of_le_of_lt (Nat.zero_le _) h1.2.2) hlen hq]
  have hrc := row_col h1.2.1 h1.1.symm
  have e1 : way1 sh k j % s.1 / 2 = k % s0.1 / 2 ^ (j + 1) := by rw [hrc.2, Nat.div_div_eq_div_mul, Nat.pow_succ]
  have e2 : way1 sh k j / s.1 / 2 = k / s0.1 / 2 ^ (j + 1) := by rw [hrc.1, Nat.div_div_eq_div_mul, Nat.pow_succ]
  have e3 : s'.1 = (s.1 + 1) / 2 := by
    clear hv hlen hq h1 h2 hrc e1 e2 hh hk hl h0
    induction sh generalizing j with
    | nil => simp at hs
    | cons a sh ih =>
      cases j with
      | zero =>
        cases sh with
        | nil => simp at hs'
        | cons a' sh => simp at hs hs'; subst hs; subst hs'; exact hH.2.2.1
      | succ j => simp at hs hs'; exact ih hH.tail hs hs'
  unfold parent
  rw [e1, e2, e3]
def mix (sh : List (Nat × Nat)) (a b : List Int) (i : Nat) : List Int := (mins sh a).take (offs sh i) ++ (mins sh b).drop (offs sh i)
theorem mix_step {sh : List (Nat × Nat)} {a b : List Int} {i q : Nat} {v : Int} {s : Nat × Nat} (hH : Halves sh) (ha : ∀ s, sh.head? = some s → a.length = s.1 * s.2) (hb : ∀ s, sh.head? = some s → b.length = s.1 * s.2) (hs : sh[i]? = some s)
    (hq : q < s.1 * s.2) (he : lev sh a i = (lev sh b i).set q v) : (mix sh a b i).set (offs sh i + q) v = mix sh a b (i + 1) := by
  have h1 := mins_lev hH ha hs
  have h2 := mins_lev hH hb hs
  have h3 := mins_length sh a hH ha
  have h4 := mins_length sh b hH hb
  have h5 := offs_lt hs
  unfold mix
  rw [offs_succ hs]
  have e1 : (mins sh b).drop (offs sh i) = lev sh b i ++ (mins sh b).drop (offs sh i + s.1 * s.2) := by
    rw [← h2]
    have := List.take_append_drop (s.1 * s.2) ((mins sh b).drop (offs sh i))
    rw [List.drop_drop] at this
    exact this.symm
  have e2 : (mins sh a).take (offs sh i + s.1 * s.2) = (mins sh a).take (offs sh i) ++ lev sh a i := by
    rw [List.take_add, ← h1]
  have hlen := lev_len hH hb hs
  have h6 : ((mins sh a).take (offs sh i)).length = offs sh i := by rw [List.length_take]; omega
  rw [e1, e2, List.set_append_right _ _ (by omega), h6, show offs sh i + q - offs sh i = q by omega, List.set_append_left _ _ (by omega), ← he, List.append_assoc]
theorem mix_level {sh : List (Nat × Nat)} {a b : List Int} {i : Nat} {s : Nat × Nat} (hH : Halves sh) (ha : ∀ s, sh.head? = some s → a.length = s.1 * s.2) (hs : sh[i]? = some s) :
    nsOf sh i s (mk0 (mix sh a b (i + 1))) = lev sh a i := by
  have h1 := mins_lev hH ha hs
  have h3 := mins_length sh a hH ha
  have h5 := offs_lt hs
  unfold nsOf mk0 mix
  rw [← List.map_drop, ← List.map_take, List.map_map]
  have e : ((fun x : Nd => x.n) ∘ fun n : Int => (⟨n, 0, false⟩ : Nd)) = id := rfl
  rw [e, List.map_id, ← h1, offs_succ hs]
  rw [List.drop_append_of_le_length (by rw [List.length_take]; omega), List.take_append_of_le_length (by simp; omega), List.drop_take, List.take_take]
  congr 1
  omega
theorem mix_length {sh : List (Nat × Nat)} {a b : List Int} (i : Nat) (hH : Halves sh) (ha : ∀ s, sh.head? = some s → a.length = s.1 * s.2) (hb : ∀ s, sh.head? = some s → b.length = s.1 * s.2) : (mix sh a b i).length = total sh := by
  have h3 := mins_length sh a hH ha
  have h4 := mins_length sh b hH hb
  unfold mix
  simp only [List.length_append, List.length_take, List.length_drop]
  omega
theorem mk0_set (l : List Int) (i : Nat) (v : Int) : (mk0 l).set i ⟨v, 0, false⟩ = mk0 (l.set i v) := by simp [mk0, List.map_set]
theorem mk0_length (l : List Int) : (mk0 l).length = l.length := by simp [mk0]
theorem mk0_get {l : List Int} {i : Nat} (h : i < l.length) : ∃ v, l[i]? = some v ∧ (mk0 l)[i]? = some ⟨v, 0, false⟩ := by
  refine ⟨l[i], List.getElem?_eq_getElem h, ?_⟩
  simp [mk0, h]
theorem offs_all : ∀ (sh : List (Nat × Nat)), offs sh sh.length = total sh := by
  intro sh
  induction sh with
  | nil => rfl
  | cons s sh ih => simp only [List.length_cons, offs, total, ih]
theorem offs_zero (sh : List (Nat × Nat)) : offs sh 0 = 0 := by cases sh <;> rfl
theorem mix_zero (sh : List (Nat × Nat)) (a b : List Int) : mix sh a b 0 = mins sh b := by unfold mix; rw [offs_zero]; simp
theorem mix_end {sh : List (Nat × Nat)} {a b : List Int} (hH : Halves sh) (ha : ∀ s, sh.head? = some s → a.length = s.1 * s.2) (hb : ∀ s, sh.head? = some s → b.length = s.1 * s.2) : mix sh a b sh.length = mins sh a := by
  unfold mix
  rw [offs_all, List.take_of_length_le (by rw [mins_length sh a hH ha]; exact Nat.le_refl _), List.drop_of_length_le (by rw [mins_length sh b hH hb]; exact Nat.le_refl _), List.append_nil]
theorem lev_zero {sh : List (Nat × Nat)} {l : List Int} {s : Nat × Nat} (h : sh[0]? = some s) : lev sh l 0 = l := by
  cases sh with
  | nil => simp at h
  | cons a sh => rfl
theorem halves_next : ∀ {sh : List (Nat × Nat)} {j : Nat} {s s' : Nat × Nat}, Halves sh → sh[j]? = some s → sh[j + 1]? = some s' → s'.1 = (s.1 + 1) / 2 ∧ s'.2 = (s.2 + 1) / 2 := by
  intro sh
  induction sh with
  | nil => intro j s s' _ h; simp at h
  | cons a sh ih =>
    intro j s s' hH hs hs'
    cases j with
    | zero =>
      cases sh with
      | nil => simp at hs'
      | cons a' sh => simp at hs hs'; subst hs; subst hs'; exact ⟨hH.2.2.1, hH.2.2.2.1⟩
    | succ j => simp at hs hs'; exact ih hH.tail hs hs'
theorem half_pow (a j : Nat) : ((a / 2 ^ j : Nat) : Int) / 2 = ((a / 2 ^ (j + 1) : Nat) : Int) := by
  rw [Nat.pow_succ, ← Nat.div_div_eq_div_mul]; simp
end Go.Eng
/- Plain: a tag tree as one row, with the place above each. -/
set_option linter.unusedVariables false
set_option linter.unusedSimpArgs false
namespace Go.Eng
open Go
def encR (x : Nd × Int) : List Value := [.int .i64 x.1.n, .int .i64 x.1.low, .bool x.1.said, .int .i64 x.2]
theorem encR_len (x : Nd × Int) : (encR x).length = 4 := rfl
def ups : List (Nat × Nat) → Nat → List Int
  | [], _ => []
  | s :: sh, o => ((List.range (s.1 * s.2)).map fun k => if 1 < s.1 * s.2 then ((o + s.1 * s.2 + parent s.1 k : Nat) : Int) else -1) ++ ups sh (o + s.1 * s.2)
theorem ups_length : ∀ (sh : List (Nat × Nat)) (o : Nat), (ups sh o).length = total sh := by
  intro sh
  induction sh with
  | nil => intro o; rfl
  | cons s sh ih => intro o; simp [ups, total, ih]
theorem ups_append : ∀ (a b : List (Nat × Nat)) (o : Nat), ups (a ++ b) o = ups a o ++ ups b (o + total a) := by
  intro a
  induction a with
  | nil => intro b o; simp [ups, total]
  | cons s a ih => intro b o; simp only [List.cons_append, ups, ih, total, List.append_assoc, Nat.add_assoc]
theorem ups_at {dn rest : List (Nat × Nat)} {w h k : Nat} (hk : k < w * h) :
    (ups (dn ++ (w, h) :: rest) 0)[total dn + k]? = some (if 1 < w * h then ((total dn + w * h + parent w k : Nat) : Int) else -1) := by
  rw [ups_append, List.getElem?_append_right (by rw [ups_length]; omega), ups_length, show total dn + k - total dn = k by omega]
  simp only [ups, Nat.zero_add]
  rw [List.getElem?_append_left (by simpa using hk)]
  simp [hk]
theorem ups_get : ∀ {sh : List (Nat × Nat)} {o i k : Nat} {s : Nat × Nat}, sh[i]? = some s → k < s.1 * s.2 → (ups sh o)[offs sh i + k]? = some (if 1 < s.1 * s.2 then ((o + offs sh i + s.1 * s.2 + parent s.1 k : Nat) : Int) else -1) := by
  intro sh
  induction sh with
  | nil => intro o i k s h; simp at h
  | cons s0 sh ih =>
    intro o i k s hs hk
    cases i with
    | zero =>
      simp at hs; subst hs
      simp only [ups, offs, Nat.zero_add, Nat.add_zero]
      rw [List.getElem?_append_left (by simpa using hk)]
      simp [hk]
    | succ i =>
      simp at hs
      simp only [ups, offs]
      rw [List.getElem?_append_right (by simp; omega)]
      simp only [List.length_map, List.length_range]
      rw [show s0.1 * s0.2 + offs sh i + k - s0.1 * s0.2 = offs sh i + k by omega, ih hs hk]
      congr 2
      simp only [Nat.add_assoc]
def Ends1 : List (Nat × Nat) → Prop
  | [] => True
  | [s] => s = (1, 1)
  | s :: s' :: sh => 1 < s.1 * s.2 ∧ Ends1 (s' :: sh)
theorem shp_ends : ∀ (f w h : Nat), 0 < w → 0 < h → w + h ≤ f + 1 → Ends1 (shp (f + 1) w h) := by
  intro f
  induction f with
  | zero => intro w h h1 h2 h3; omega
  | succ f ih =>
    intro w h hw hh hf
    rw [shp]
    split
    · rename_i hc; rw [hc.1, hc.2]; exact rfl
    · rename_i hc
      have h1 : 1 < w * h := by
        have : w ≤ w * h := Nat.le_mul_of_pos_right _ hh
        have : h ≤ w * h := Nat.le_mul_of_pos_left _ hw
        omega
      have h2 := ih ((w + 1) / 2) ((h + 1) / 2) (by omega) (by omega) (by omega)
      have h3 : shp (f + 1) ((w + 1) / 2) ((h + 1) / 2) = ((w + 1) / 2, (h + 1) / 2) :: (if (w + 1) / 2 = 1 ∧ (h + 1) / 2 = 1 then [] else shp f (((w + 1) / 2 + 1) / 2) (((h + 1) / 2 + 1) / 2)) := rfl
      rw [h3] at h2 ⊢
      exact ⟨h1, h2⟩
theorem tshape_ends (w h : Nat) : Ends1 (tshape w h) := by
  unfold tshape
  split
  · trivial
  · obtain ⟨f, hf⟩ : ∃ f, w + h = f + 1 := ⟨w + h - 1, by omega⟩
    rw [hf]
    exact shp_ends f w h (by omega) (by omega) (by omega)
theorem ends_more : ∀ {sh : List (Nat × Nat)} {i : Nat} {s s' : Nat × Nat}, Ends1 sh → sh[i]? = some s → sh[i + 1]? = some s' → 1 < s.1 * s.2 := by
  intro sh
  induction sh with
  | nil => intro i s s' _ h; simp at h
  | cons a sh ih =>
    intro i s s' hE hs hs'
    cases sh with
    | nil => simp at hs'
    | cons b sh =>
      cases i with
      | zero => simp at hs; subst hs; exact hE.1
      | succ i => simp at hs hs'; exact ih hE.2 (by simpa using hs) (by simpa using hs')
theorem ends_last : ∀ {sh : List (Nat × Nat)} {i : Nat} {s : Nat × Nat}, Ends1 sh → sh[i]? = some s → i + 1 = sh.length → s = (1, 1) := by
  intro sh
  induction sh with
  | nil => intro i s _ h; simp at h
  | cons a sh ih =>
    intro i s hE hs hl
    cases sh with
    | nil =>
      simp at hl; subst hl
      simp at hs; subst hs; exact hE
    | cons b sh =>
      cases i with
      | zero => simp at hl
      | succ i => simp at hs hl; exact ih hE.2 (by simpa using hs) (by simpa using hl)
theorem ups_fpath {sh : List (Nat × Nat)} {k i : Nat} {s0 : Nat × Nat} (hH : Halves sh) (hE : Ends1 sh) (h0 : sh[0]? = some s0) (hk : k < s0.1 * s0.2) {f : Nat} (hf : (fpath sh 0 k)[i]? = some f) :
    (ups sh 0)[f]? = some (match (fpath sh 0 k)[i + 1]? with | some f' => ((f' : Nat) : Int) | none => -1) := by
  have hl := (List.getElem?_eq_some_iff.1 hf).1
  rw [fpath_length] at hl
  obtain ⟨s, hs⟩ : ∃ s, sh[i]? = some s := ⟨_, List.getElem?_eq_getElem hl⟩
  have h1 := fpath_way1 (o := 0) (k := k) hs
  rw [h1] at hf
  injection hf with hf
  subst hf
  have h2 := way1_xy hH h0 hk hs
  have hq : way1 sh k i < s.1 * s.2 := by rw [h2.1]; exact idx_lt h2.2.1 h2.2.2
  rw [Nat.zero_add, ups_get hs hq]
  by_cases hn : i + 1 < sh.length
  · obtain ⟨s', hs'⟩ : ∃ s', sh[i + 1]? = some s' := ⟨_, List.getElem?_eq_getElem hn⟩
    rw [if_pos (ends_more hE hs hs'), fpath_way1 (o := 0) (k := k) hs']
    dsimp only
    congr 2
    rw [offs_succ hs]
    have h3 := way1_xy hH h0 hk hs'
    have hrc := row_col h2.2.1 h2.1.symm
    have hnx := halves_next hH hs hs'
    have e : parent s.1 (way1 sh k i) = way1 sh k (i + 1) := by
      unfold parent
      have e5 : ∀ a : Nat, a / 2 ^ i / 2 = a / 2 ^ (i + 1) := fun a => by rw [Nat.div_div_eq_div_mul, Nat.pow_succ]
      rw [hrc.1, hrc.2, h3.1, hnx.1, e5, e5]
    rw [e]; omega
  · have : s = (1, 1) := ends_last hE hs (by omega)
    subst this
    rw [if_neg (by simp), List.getElem?_eq_none (by rw [fpath_length]; omega)]
def encZ (u : Int) : List Value := encR (⟨0, 0, false⟩, u)
theorem zip_rep (n : Nat) (us : List Int) (h : us.length = n) : ((List.replicate n (⟨0, 0, false⟩ : Nd)).zip us).flatMap encR = us.flatMap encZ := by
  subst h
  induction us with
  | nil => rfl
  | cons u us ih => simp only [List.length_cons, List.replicate_succ, List.zip_cons_cons, List.flatMap_cons, ih]; rfl
theorem encZ_snoc {us : List Int} {m : Nat} {u : Int} (h : us[m]? = some u) : (us.take (m + 1)).flatMap encZ = (us.take m).flatMap encZ ++ [.int .i64 0, .int .i64 0, .bool false, .int .i64 u] := by
  have hlt := (List.getElem?_eq_some_iff.1 h).1
  rw [List.take_succ_eq_append_getElem hlt]
  have : us[m] = u := by rw [List.getElem?_eq_getElem hlt] at h; injection h
  rw [this]
  simp [encZ, encR]
theorem tshape_nil {w h : Nat} (_ : w * h ≤ 64 * 64) (h0 : ((w * h : Nat) : Int) = 0) : tshape w h = [] := by
  have : w * h = 0 := by omega
  rcases Nat.mul_eq_zero.1 this with h1 | h1
  · exact if_pos (.inl h1)
  · exact if_pos (.inr h1)
theorem pos_left {w h : Nat} (_ : w * h ≤ 64 * 64) (h0 : ¬ ((w * h : Nat) : Int) = 0) : 0 < w := by
  rcases Nat.eq_zero_or_pos w with h1 | h1
  · subst h1; simp at h0
  · exact h1
theorem pos_right {w h : Nat} (_ : w * h ≤ 64 * 64) (h0 : ¬ ((w * h : Nat) : Int) = 0) : 0 < h := by
  rcases Nat.eq_zero_or_pos h with h1 | h1
  · subst h1; simp at h0
  · exact h1
theorem tshape_pos {w h : Nat} (hm : w * h ≤ 64 * 64) (h0 : ¬ ((w * h : Nat) : Int) = 0) : tshape w h = [] ++ shp (w + h) w h := by
  have := pos_left hm h0
  have := pos_right hm h0
  unfold tshape; rw [if_neg (by omega)]; rfl
theorem nat_sum {a b : Nat} (h : a + b ≤ 9223372036854775807) : (a : Int) + (b : Int) ≤ 9223372036854775807 := by omega
theorem nat_le63 {a : Nat} (h : a ≤ 9223372036854775807) : (a : Int) ≤ 9223372036854775807 := by omega
def leavesOf (sh : List (Nat × Nat)) : Nat := match sh.head? with | some s => s.1 * s.2 | none => 0
theorem leaves_tshape {w h : Nat} (hm : w * h ≤ 64 * 64) (h0 : ¬ ((w * h : Nat) : Int) = 0) : leavesOf (tshape w h) = w * h := by
  have h1 := pos_left hm h0
  have h2 := pos_right hm h0
  rw [tshape_pos hm h0, List.nil_append]
  obtain ⟨f, hf⟩ : ∃ f, w + h = f + 1 := ⟨w + h - 1, by omega⟩
  rw [hf]
  rfl
def rcells (T : List Nd) (us : List Int) : List Value := (T.zip us).flatMap encR
theorem rc_get {T : List Nd} {us : List Int} {i o : Nat} {nd : Nd} {u : Int} {v : Value} (hT : T[i]? = some nd) (hu : us[i]? = some u) (hv : (encR (nd, u))[o]? = some v) : (rcells T us)[i * 4 + o]? = some v :=
  flat_get encR_len (List.getElem?_zip_eq_some.2 ⟨hT, hu⟩) hv
theorem rc_part {T : List Nd} {us : List Int} {i : Nat} {nd : Nd} {u : Int} (hT : T[i]? = some nd) (hu : us[i]? = some u) : ∀ o, o < 4 → (rcells T us)[i * 4 + o]? = (encR (nd, u))[o]? :=
  flat_part encR_len (List.getElem?_zip_eq_some.2 ⟨hT, hu⟩)
theorem zip_set {T : List Nd} {us : List Int} {i : Nat} {nd' : Nd} {u : Int} (hu : us[i]? = some u) : (T.zip us).set i (nd', u) = (T.set i nd').zip us := by
  apply List.ext_getElem?
  intro j
  by_cases hj : i = j
  · subst hj
    by_cases hlt : i < T.length
    · have hul := (List.getElem?_eq_some_iff.1 hu).1
      rw [List.getElem?_set_self (by simp; omega)]
      symm
      rw [List.getElem?_zip_eq_some]
      exact ⟨by rw [List.getElem?_set_self hlt], hu⟩
    · rw [List.getElem?_eq_none (by simp; omega), List.getElem?_eq_none (by simp; omega)]
  · rw [List.getElem?_set_ne hj]
    simp only [List.zip, List.getElem?_zipWith]
    rw [List.getElem?_set_ne hj]
theorem rc_set {T : List Nd} {us : List Int} {i o : Nat} {nd nd' : Nd} {u : Int} {x : Value} (hT : T[i]? = some nd) (hu : us[i]? = some u) (ho : o < 4) (he : (encR (nd, u)).set o x = encR (nd', u)) :
    (rcells T us).set (i * 4 + o) x = rcells (T.set i nd') us := by
  unfold rcells
  rw [flat_set encR_len (List.getElem?_zip_eq_some.2 ⟨hT, hu⟩) ho he, zip_set hu]
theorem rc_put {T : List Nd} {us : List Int} {i : Nat} {nd' : Nd} {u : Int} (hi : i < T.length) (hu : us[i]? = some u) :
    (rcells T us).take (i * 4) ++ encR (nd', u) ++ (rcells T us).drop (i * 4 + (encR (nd', u)).length) = rcells (T.set i nd') us := by
  have hul := (List.getElem?_eq_some_iff.1 hu).1
  unfold rcells
  rw [flat_put encR_len (by simp; omega), zip_set hu]
theorem rc_len {T : List Nd} {us : List Int} (h : T.length = us.length) : (rcells T us).length = T.length * 4 := by
  unfold rcells
  rw [flat_length encR_len, List.length_zip, h]; simp
theorem rc_lt {T : List Nd} {us : List Int} {i o : Nat} (h : T.length = us.length) (hi : i < T.length) (ho : o < 4) : i * 4 + o < (rcells T us).length := by
  rw [rc_len h]; omega
theorem leaves_le (sh : List (Nat × Nat)) : leavesOf sh ≤ total sh := by
  unfold leavesOf
  cases sh with
  | nil => simp
  | cons s sh => simp [total]
def big : Int := 4611686018427387904
def fillStep (us : List Int) (l : List Int) (i : Nat) : List Int :=
  let u := us.getD i (-1)
  if 0 ≤ u then l.set u.toNat (min (l.getD u.toNat 0) (l.getD i 0)) else l
def fillAll (us : List Int) (l : List Int) (n : Nat) : List Int := (List.range n).foldl (fillStep us) l
theorem fillAll_succ (us : List Int) (l : List Int) (n : Nat) : fillAll us l (n + 1) = fillStep us (fillAll us l n) n := by
  unfold fillAll; rw [List.range_succ, List.foldl_append]; rfl
theorem fillStep_length (us l : List Int) (i : Nat) : (fillStep us l i).length = l.length := by
  unfold fillStep; dsimp only; split <;> simp
theorem fillAll_length (us l : List Int) (n : Nat) : (fillAll us l n).length = l.length := by
  induction n with
  | zero => rfl
  | succ n ih => rw [fillAll_succ, fillStep_length, ih]
theorem leastOf_spec {w h x y : Nat} {l : List Int} (hx : 2 * x < w) (hy : 2 * y < h) :
    (∀ dx dy, dx < 2 → dy < 2 → 2 * x + dx < w → 2 * y + dy < h → leastOf w h l x y ≤ l.getD ((2 * y + dy) * w + (2 * x + dx)) 0) ∧
    (∃ dx dy, dx < 2 ∧ dy < 2 ∧ 2 * x + dx < w ∧ 2 * y + dy < h ∧ leastOf w h l x y = l.getD ((2 * y + dy) * w + (2 * x + dx)) 0) := by
  unfold leastOf leastUp
  simp only [four, List.take, List.foldl, leastStep, Nat.add_zero]
  generalize e0 : l.getD (2 * y * w + 2 * x) 0 = a
  generalize e1 : l.getD (2 * y * w + (2 * x + 1)) 0 = b
  generalize e2 : l.getD ((2 * y + 1) * w + 2 * x) 0 = c
  generalize e3 : l.getD ((2 * y + 1) * w + (2 * x + 1)) 0 = d
  have h00 : (2 * x < w ∧ 2 * y < h) := ⟨hx, hy⟩
  rw [if_pos h00]
  constructor
  · intro dx dy h1 h2 h3 h4
    have hdx : dx = 0 ∨ dx = 1 := by omega
    have hdy : dy = 0 ∨ dy = 1 := by omega
    rcases hdx with rfl | rfl <;> rcases hdy with rfl | rfl <;> simp only [Nat.add_zero, e0, e1, e2, e3] at * <;> (repeat' split) <;> omega
  · by_cases c1 : 2 * x + 1 < w <;> by_cases c2 : 2 * y + 1 < h
    · have k : min (min (min (min a a) b) c) d = a ∨ min (min (min (min a a) b) c) d = b ∨ min (min (min (min a a) b) c) d = c ∨ min (min (min (min a a) b) c) d = d := by omega
      rw [if_pos ⟨c1, c2⟩, if_pos ⟨hx, c2⟩, if_pos ⟨c1, hy⟩]
      rcases k with k | k | k | k
      · exact ⟨0, 0, by omega, by omega, hx, hy, by simp only [Nat.add_zero]; rw [e0]; exact k⟩
      · exact ⟨1, 0, by omega, by omega, c1, hy, by simp only [Nat.add_zero]; rw [e1]; exact k⟩
      · exact ⟨0, 1, by omega, by omega, hx, c2, by simp only [Nat.add_zero]; rw [e2]; exact k⟩
      · exact ⟨1, 1, by omega, by omega, c1, c2, by rw [e3]; exact k⟩
    · rw [if_neg (fun e => c2 e.2), if_neg (fun e => c2 e.2), if_pos ⟨c1, hy⟩]
      have k : min (min a a) b = a ∨ min (min a a) b = b := by omega
      rcases k with k | k
      · exact ⟨0, 0, by omega, by omega, hx, hy, by simp only [Nat.add_zero]; rw [e0]; exact k⟩
      · exact ⟨1, 0, by omega, by omega, c1, hy, by simp only [Nat.add_zero]; rw [e1]; exact k⟩
    · rw [if_neg (fun e => c1 e.1), if_pos ⟨hx, c2⟩, if_neg (fun e => c1 e.1)]
      have k : min (min a a) c = a ∨ min (min a a) c = c := by omega
      rcases k with k | k
      · exact ⟨0, 0, by omega, by omega, hx, hy, by simp only [Nat.add_zero]; rw [e0]; exact k⟩
      · exact ⟨0, 1, by omega, by omega, hx, c2, by simp only [Nat.add_zero]; rw [e2]; exact k⟩
    · rw [if_neg (fun e => c1 e.1), if_neg (fun e => c2 e.2), if_neg (fun e => c1 e.1)]
      exact ⟨0, 0, by omega, by omega, hx, hy, by simp only [Nat.add_zero]; rw [e0]; omega⟩
def fillRow (w : Nat) (l r : List Int) (k : Nat) : List Int := (List.range k).foldl (fun r k => r.set (parent w k) (min (r.getD (parent w k) 0) (l.getD k 0))) r
theorem fillRow_succ (w : Nat) (l r : List Int) (k : Nat) : fillRow w l r (k + 1) = (fillRow w l r k).set (parent w k) (min ((fillRow w l r k).getD (parent w k) 0) (l.getD k 0)) := by
  unfold fillRow; rw [List.range_succ, List.foldl_append]; rfl
theorem fillRow_length (w : Nat) (l r : List Int) (k : Nat) : (fillRow w l r k).length = r.length := by
  induction k with
  | zero => rfl
  | succ k ih => rw [fillRow_succ, List.length_set, ih]
theorem fillRow_spec {w n : Nat} {l : List Int} : ∀ (k p : Nat), p < n →
    (∀ j, j < k → parent w j = p → (fillRow w l (List.replicate n big) k).getD p 0 ≤ l.getD j 0) ∧
    ((fillRow w l (List.replicate n big) k).getD p 0 = big ∨ ∃ j, j < k ∧ parent w j = p ∧ (fillRow w l (List.replicate n big) k).getD p 0 = l.getD j 0) := by
  intro k
  induction k with
  | zero =>
    intro p hp
    refine ⟨fun j hj => by omega, .inl ?_⟩
    simp [fillRow, hp]
  | succ k ih =>
    intro p hp
    obtain ⟨h1, h2⟩ := ih p hp
    have hlen := fillRow_length w l (List.replicate n big) k
    rw [List.length_replicate] at hlen
    rw [fillRow_succ]
    by_cases hpk : parent w k = p
    · subst hpk
      have e : ((fillRow w l (List.replicate n big) k).set (parent w k) (min ((fillRow w l (List.replicate n big) k).getD (parent w k) 0) (l.getD k 0))).getD (parent w k) 0 =
          min ((fillRow w l (List.replicate n big) k).getD (parent w k) 0) (l.getD k 0) := by
        rw [List.getD_eq_getElem?_getD, List.getElem?_set_self (by omega)]; rfl
      rw [e]
      generalize (fillRow w l (List.replicate n big) k).getD (parent w k) 0 = a at *
      constructor
      · intro j hj hjp
        by_cases hjk : j = k
        · subst hjk; omega
        · have := h1 j (by omega) hjp; omega
      · by_cases hc : a ≤ l.getD k 0
        · have e2 : min a (l.getD k 0) = a := by omega
          rw [e2]
          rcases h2 with h2 | ⟨j, hj, hjp, hje⟩
          · exact .inl h2
          · exact .inr ⟨j, by omega, hjp, hje⟩
        · exact .inr ⟨k, by omega, rfl, by omega⟩
    · have e : ∀ v, ((fillRow w l (List.replicate n big) k).set (parent w k) v).getD p 0 = (fillRow w l (List.replicate n big) k).getD p 0 := by
        intro v
        rw [List.getD_eq_getElem?_getD, List.getElem?_set_ne hpk, ← List.getD_eq_getElem?_getD]
      rw [e]
      constructor
      · intro j hj hjp
        by_cases hjk : j = k
        · subst hjk; exact absurd hjp hpk
        · exact h1 j (by omega) hjp
      · rcases h2 with h2 | ⟨j, hj, hjp, hje⟩
        · exact .inl h2
        · exact .inr ⟨j, by omega, hjp, hje⟩
theorem fillRow_up1 {w h : Nat} {l : List Int} (hw : 0 < w) (hh : 0 < h) (hl : l.length = w * h) (hbig : ∀ x ∈ l, x ≤ big) :
    fillRow w l (List.replicate ((w + 1) / 2 * ((h + 1) / 2)) big) (w * h) = up1 w h l := by
  apply List.ext_getElem?
  intro p
  by_cases hp : p < (w + 1) / 2 * ((h + 1) / 2)
  · have e1 : (up1 w h l)[p]? = some (leastOf w h l (p % ((w + 1) / 2)) (p / ((w + 1) / 2))) := by unfold up1; simp [hp]
    have hlen : p < (fillRow w l (List.replicate ((w + 1) / 2 * ((h + 1) / 2)) big) (w * h)).length := by rw [fillRow_length, List.length_replicate]; exact hp
    rw [e1, List.getElem?_eq_getElem hlen]
    congr 1
    have hx : p % ((w + 1) / 2) < (w + 1) / 2 := Nat.mod_lt _ (by omega)
    have hy : p / ((w + 1) / 2) < (h + 1) / 2 := Nat.div_lt_of_lt_mul hp
    have hpe : p / ((w + 1) / 2) * ((w + 1) / 2) + p % ((w + 1) / 2) = p := by rw [Nat.mul_comm]; exact Nat.div_add_mod _ _
    obtain ⟨h1, h2⟩ := fillRow_spec (w := w) (l := l) (w * h) p hp
    have eg : (fillRow w l (List.replicate ((w + 1) / 2 * ((h + 1) / 2)) big) (w * h)).getD p 0 = (fillRow w l (List.replicate ((w + 1) / 2 * ((h + 1) / 2)) big) (w * h))[p] := by
      rw [List.getD_eq_getElem?_getD, List.getElem?_eq_getElem hlen]; rfl
    rw [eg] at h1 h2
    obtain ⟨h3, dx, dy, k1, k2, k3, k4, k5⟩ := leastOf_spec (w := w) (h := h) (l := l) (x := p % ((w + 1) / 2)) (y := p / ((w + 1) / 2)) (by omega) (by omega)
    generalize p % ((w + 1) / 2) = x at *
    generalize p / ((w + 1) / 2) = y at *
    have hchild : ∀ dx dy, dx < 2 → dy < 2 → 2 * x + dx < w → 2 * y + dy < h → parent w ((2 * y + dy) * w + (2 * x + dx)) = p ∧ (2 * y + dy) * w + (2 * x + dx) < w * h := by
      intro dx dy d1 d2 d3 d4
      obtain ⟨e5, e6⟩ := row_col d3 (rfl : (2 * y + dy) * w + (2 * x + dx) = _)
      refine ⟨?_, idx_lt d3 d4⟩
      unfold parent
      rw [e5, e6, show (2 * y + dy) / 2 = y by omega, show (2 * x + dx) / 2 = x by omega]
      exact hpe
    obtain ⟨c1, c2⟩ := hchild dx dy k1 k2 k3 k4
    have hle := h1 _ c2 c1
    rw [← k5] at hle
    refine Int.le_antisymm hle ?_
    rcases h2 with h2 | ⟨j, hj, hjp, hje⟩
    · rw [h2, k5]
      have : l.getD ((2 * y + dy) * w + (2 * x + dx)) 0 ∈ l := by
        rw [List.getD_eq_getElem?_getD, List.getElem?_eq_getElem (by rw [hl]; exact c2)]; exact List.getElem_mem _
      exact hbig _ this
    · rw [hje]
      have hj1 : j % w < w := Nat.mod_lt _ hw
      have hj2 : j / w < h := Nat.div_lt_of_lt_mul hj
      unfold parent at hjp
      have hxw : j % w / 2 < (w + 1) / 2 := by omega
      have hxx : x < (w + 1) / 2 := hx
      have e7 := row_col hxw hjp
      have e8 := row_col hxx hpe
      have e9 : j / w / 2 = y := by rw [← e7.1, e8.1]
      have e10 : j % w / 2 = x := by rw [← e7.2, e8.2]
      have e11 := h3 (j % w - 2 * x) (j / w - 2 * y) (by omega) (by omega) (by omega) (by omega)
      rw [show 2 * y + (j / w - 2 * y) = j / w by omega, show 2 * x + (j % w - 2 * x) = j % w by omega, show j / w * w + j % w = j by rw [Nat.mul_comm]; exact Nat.div_add_mod _ _] at e11
      exact e11
  · rw [List.getElem?_eq_none (by rw [fillRow_length, List.length_replicate]; omega), List.getElem?_eq_none (by rw [up1_length]; omega)]
theorem fillRow_append {w : Nat} {l r R : List Int} : ∀ (k : Nat), (∀ j, j < k → parent w j < r.length) → fillRow w l (r ++ R) k = fillRow w l r k ++ R := by
  intro k
  induction k with
  | zero => intro _; rfl
  | succ k ih =>
    intro h
    have hk := h k (by omega)
    have hl : (fillRow w l r k).length = r.length := fillRow_length _ _ _ _
    rw [fillRow_succ, fillRow_succ, ih (fun j hj => h j (by omega)), List.set_append_left _ _ (by omega)]
    congr 3
    rw [List.getD_eq_getElem?_getD, List.getElem?_append_left (by omega), ← List.getD_eq_getElem?_getD]
def fillFrom (us l : List Int) (o n : Nat) : List Int := (List.range' o n).foldl (fillStep us) l
theorem fillFrom_row {us pre nums : List Int} {w n o : Nat} (ho : pre.length = o) (hn : nums.length = n) : ∀ (k : Nat) (r : List Int), k ≤ n → (∀ j, j < n → parent w j < r.length) →
    (∀ j, j < n → us[o + j]? = some ((o + n + parent w j : Nat) : Int)) → fillFrom us (pre ++ nums ++ r) o k = pre ++ nums ++ fillRow w nums r k := by
  intro k
  induction k with
  | zero => intro r _ _ _; rfl
  | succ k ih =>
    intro r hk hr hu
    have e : fillFrom us (pre ++ nums ++ r) o (k + 1) = fillStep us (fillFrom us (pre ++ nums ++ r) o k) (o + k) := by
      unfold fillFrom; rw [List.range'_concat, List.foldl_append]; simp
    rw [e, ih r (by omega) hr hu, fillRow_succ]
    have hul : us.getD (o + k) (-1) = ((o + n + parent w k : Nat) : Int) := by rw [List.getD_eq_getElem?_getD, hu k (by omega)]; rfl
    unfold fillStep
    rw [hul]
    dsimp only
    rw [if_pos (Int.natCast_nonneg _), Int.toNat_natCast]
    have hpl : (pre ++ nums).length = o + n := by rw [List.length_append, ho, hn]
    have e1 : (pre ++ nums ++ fillRow w nums r k).getD (o + n + parent w k) 0 = (fillRow w nums r k).getD (parent w k) 0 := by
      rw [List.getD_eq_getElem?_getD, List.getElem?_append_right (by omega), hpl, show o + n + parent w k - (o + n) = parent w k by omega, ← List.getD_eq_getElem?_getD]
    have e2 : (pre ++ nums ++ fillRow w nums r k).getD (o + k) 0 = nums.getD k 0 := by
      rw [List.getD_eq_getElem?_getD, List.getElem?_append_left (by omega), List.getElem?_append_right (by omega), ho, show o + k - o = k by omega, ← List.getD_eq_getElem?_getD]
    rw [e1, e2, List.set_append_right _ _ (by omega), hpl, show o + n + parent w k - (o + n) = parent w k by omega]
theorem up1_big {w h : Nat} {l : List Int} (hw : 0 < w) (hh : 0 < h) (hl : l.length = w * h) (hbig : ∀ x ∈ l, x ≤ big) : ∀ x ∈ up1 w h l, x ≤ big := by
  intro x hx
  unfold up1 at hx
  rw [List.mem_map] at hx
  obtain ⟨p, hp, rfl⟩ := hx
  have hp := List.mem_range.1 hp
  have hx1 : p % ((w + 1) / 2) < (w + 1) / 2 := Nat.mod_lt _ (by omega)
  have hy1 : p / ((w + 1) / 2) < (h + 1) / 2 := Nat.div_lt_of_lt_mul hp
  obtain ⟨h3, dx, dy, k1, k2, k3, k4, k5⟩ := leastOf_spec (w := w) (h := h) (l := l) (x := p % ((w + 1) / 2)) (y := p / ((w + 1) / 2)) (by omega) (by omega)
  rw [k5]
  have hi := idx_lt k3 k4
  have : l.getD ((2 * (p / ((w + 1) / 2)) + dy) * w + (2 * (p % ((w + 1) / 2)) + dx)) 0 ∈ l := by
    rw [List.getD_eq_getElem?_getD, List.getElem?_eq_getElem (by rw [hl]; exact hi)]; exact List.getElem_mem _
  exact hbig _ this
theorem fillFrom_mins : ∀ (sh : List (Nat × Nat)) (o : Nat) (pre preU nums : List Int), Halves sh → Ends1 sh → pre.length = o → preU.length = o → (sh = [] → nums = []) → (∀ s, sh.head? = some s → nums.length = s.1 * s.2) → (∀ x ∈ nums, x ≤ big) →
    fillFrom (preU ++ ups sh o) (pre ++ nums ++ List.replicate (total sh - nums.length) big) o (total sh) = pre ++ mins sh nums := by
  intro sh
  induction sh with
  | nil => intro o pre preU nums _ _ _ _ h0 _ _; rw [h0 rfl]; simp [fillFrom, total, mins]
  | cons s sh ih =>
    intro o pre preU nums hH hE hp hu h0 hl hbig
    have hn := hl s rfl
    cases sh with
    | nil =>
      have hs : s = (1, 1) := hE
      subst hs
      have e : fillFrom (preU ++ ups [(1, 1)] o) (pre ++ nums ++ List.replicate (total [(1, 1)] - nums.length) big) o (total [(1, 1)]) = fillStep (preU ++ ups [(1, 1)] o) (pre ++ nums ++ List.replicate (total [(1, 1)] - nums.length) big) o := rfl
      rw [e]
      have hul : (preU ++ ups [(1, 1)] o).getD o (-1) = -1 := by
        rw [List.getD_eq_getElem?_getD, List.getElem?_append_right (by omega), hu]
        simp [ups]
      unfold fillStep
      rw [hul]
      dsimp only at hn
      simp [hn, total, mins]
    | cons s' sh =>
      have hpos := hH.pos
      have hE1 := hE.1
      have htot : total (s :: s' :: sh) = s.1 * s.2 + total (s' :: sh) := rfl
      have hn' : s'.1 * s'.2 = (s.1 + 1) / 2 * ((s.2 + 1) / 2) := by rw [hH.2.2.1, hH.2.2.2.1]
      have hm : s'.1 * s'.2 ≤ total (s' :: sh) := by simp [total]
      have hR : List.replicate (total (s' :: sh)) big = List.replicate (s'.1 * s'.2) big ++ List.replicate (total (s' :: sh) - s'.1 * s'.2) big := by
        rw [List.replicate_append_replicate]; congr 1; omega
      have hpar : ∀ j, j < s.1 * s.2 → parent s.1 j < s'.1 * s'.2 := fun j hj => by rw [hn']; exact parent_lt hpos.1 hj
      have e0 : total (s :: s' :: sh) - nums.length = total (s' :: sh) := by omega
      rw [e0]
      have e1 : fillFrom (preU ++ ups (s :: s' :: sh) o) (pre ++ nums ++ List.replicate (total (s' :: sh)) big) o (total (s :: s' :: sh)) =
          fillFrom (preU ++ ups (s :: s' :: sh) o) (fillFrom (preU ++ ups (s :: s' :: sh) o) (pre ++ nums ++ List.replicate (total (s' :: sh)) big) o (s.1 * s.2)) (o + s.1 * s.2) (total (s' :: sh)) := by
        unfold fillFrom
        rw [htot, ← List.foldl_append]
        congr 1
        have := List.range'_append (s := o) (m := s.1 * s.2) (n := total (s' :: sh)) (step := 1)
        rw [Nat.one_mul] at this
        exact this.symm
      rw [e1, fillFrom_row (w := s.1) (n := s.1 * s.2) hp hn (s.1 * s.2) _ (Nat.le_refl _) (by intro j hj; rw [List.length_replicate]; have := hpar j hj; omega) ?_]
      · rw [hR, fillRow_append _ (by intro j hj; rw [List.length_replicate]; exact hpar j hj), hn', fillRow_up1 hpos.1 hpos.2 hn hbig, ← hn']
        have hup : (up1 s.1 s.2 nums).length = s'.1 * s'.2 := by rw [up1_length, hn']
        have h5 := ih (o + s.1 * s.2) (pre ++ nums) (preU ++ (ups (s :: s' :: sh) o).take (s.1 * s.2)) (up1 s.1 s.2 nums) hH.tail hE.2 (by simp; omega) (by rw [List.length_append, List.length_take, ups_length, htot]; omega) (fun h => by cases h)
          (by intro s1 hs1; simp at hs1; subst hs1; exact hup) (up1_big hpos.1 hpos.2 hn hbig)
        have e3 : preU ++ (ups (s :: s' :: sh) o).take (s.1 * s.2) ++ ups (s' :: sh) (o + s.1 * s.2) = preU ++ ups (s :: s' :: sh) o := by
          rw [List.append_assoc]
          congr 1
          have e4 : ups (s :: s' :: sh) o = ((List.range (s.1 * s.2)).map fun k => if 1 < s.1 * s.2 then ((o + s.1 * s.2 + parent s.1 k : Nat) : Int) else -1) ++ ups (s' :: sh) (o + s.1 * s.2) := rfl
          rw [e4, List.take_append_of_le_length (by simp), List.take_of_length_le (by simp)]
        rw [e3, hup] at h5
        rw [← List.append_assoc, h5]
        simp only [mins, List.append_assoc]
      · intro j hj
        rw [List.getElem?_append_right (by omega), hu, show o + j - o = j by omega]
        have := ups_get (sh := s :: s' :: sh) (o := o) (i := 0) (k := j) (s := s) rfl hj
        rw [offs_zero, Nat.zero_add, if_pos hE1] at this
        rw [this]; simp
theorem fill_mins {sh : List (Nat × Nat)} {nums : List Int} (hH : Halves sh) (hE : Ends1 sh) (h0 : sh = [] → nums = []) (hl : ∀ s, sh.head? = some s → nums.length = s.1 * s.2) (hbig : ∀ x ∈ nums, x ≤ big) :
    fillAll (ups sh 0) (nums ++ List.replicate (total sh - nums.length) big) (total sh) = mins sh nums := by
  have := fillFrom_mins sh 0 [] [] nums hH hE rfl rfl h0 hl hbig
  unfold fillAll
  rw [List.range_eq_range']
  simpa [fillFrom] using this
theorem mk0_get1 {l : List Int} {i : Nat} {v : Int} (h : l[i]? = some v) : (mk0 l)[i]? = some ⟨v, 0, false⟩ := by simp [mk0, h]
theorem fill_first {nums z : List Int} {i : Nat} (hi : nums.length ≤ i) (hz : i < nums.length + z.length) :
    (nums ++ List.replicate (i - nums.length) big ++ z.drop (i - nums.length)).set i big = nums ++ List.replicate (i + 1 - nums.length) big ++ z.drop (i + 1 - nums.length) := by
  have e : i = (nums ++ List.replicate (i - nums.length) big).length + 0 := by simp; omega
  rw [show (nums ++ List.replicate (i - nums.length) big ++ z.drop (i - nums.length)).set i big = (nums ++ List.replicate (i - nums.length) big ++ z.drop (i - nums.length)).set ((nums ++ List.replicate (i - nums.length) big).length + 0) big by rw [← e]]
  rw [List.set_append_right _ _ (by omega), Nat.add_sub_cancel_left, List.drop_eq_getElem_cons (by omega)]
  simp only [List.set_cons_zero]
  rw [show i + 1 - nums.length = (i - nums.length) + 1 by omega, List.replicate_succ']
  simp
theorem fillStep_none {us l : List Int} {i : Nat} {u : Int} (hu : us[i]? = some u) (h : ¬ 0 ≤ u) : fillStep us l i = l := by
  unfold fillStep
  rw [show us.getD i (-1) = u by rw [List.getD_eq_getElem?_getD, hu]; rfl]
  exact if_neg h
theorem fillStep_some {us l : List Int} {i j : Nat} {a b : Int} (hu : us[i]? = some (j : Int)) (ha : l[j]? = some a) (hb : l[i]? = some b) : fillStep us l i = l.set j (min a b) := by
  unfold fillStep
  rw [show us.getD i (-1) = (j : Int) by rw [List.getD_eq_getElem?_getD, hu]; rfl]
  dsimp only
  rw [if_pos (Int.natCast_nonneg _), Int.toNat_natCast, List.getD_eq_getElem?_getD, List.getD_eq_getElem?_getD, ha, hb]
  rfl
theorem ups_lt {sh : List (Nat × Nat)} (hH : Halves sh) (hE : Ends1 sh) {i : Nat} {u : Int} (hu : (ups sh 0)[i]? = some u) (h : 0 ≤ u) : u < total sh := by
  have key : ∀ (sh : List (Nat × Nat)) (o : Nat), Halves sh → Ends1 sh → ∀ u ∈ ups sh o, 0 ≤ u → u < ((o + total sh : Nat) : Int) := by
    intro sh
    induction sh with
    | nil => intro o _ _ u hu; simp [ups] at hu
    | cons s sh ih =>
      intro o hH hE u hu h
      simp only [ups, List.mem_append, List.mem_map, List.mem_range] at hu
      rcases hu with ⟨k, hk, rfl⟩ | hu
      · split at h
        · rename_i hc
          rw [if_pos hc]
          cases sh with
          | nil =>
            have : s = (1, 1) := hE
            subst this; simp at hc
          | cons s' sh =>
            have hp := parent_lt (h := s.2) hH.pos.1 hk
            rw [← hH.2.2.1, ← hH.2.2.2.1] at hp
            simp only [total]
            omega
        · omega
      · cases sh with
        | nil => simp [ups] at hu
        | cons s' sh =>
          have := ih (o + s.1 * s.2) hH.tail hE.2 u hu h
          simp only [total] at this ⊢
          omega
  have := key sh 0 hH hE u (List.mem_of_getElem? hu) h
  rwa [Nat.zero_add] at this
def nats (l : List Nat) : List Value := l.map fun (n : Nat) => .int .i64 (n : Int)
@[simp] theorem nats_length (l : List Nat) : (nats l).length = l.length := by simp [nats]
theorem one_nats {l : List Nat} : ∀ v ∈ nats l, one? v = true := by intro v hv; simp [nats] at hv; obtain ⟨n, _, rfl⟩ := hv; rfl
theorem nats_get {l : List Nat} {i x : Nat} (h : l[i]? = some x) : (nats l)[i]? = some (.int .i64 (x : Int)) := by simp [nats, h]
theorem nats_snoc {l : List Nat} {i f : Nat} (h : l[i]? = some f) : nats (l.take (i + 1)).reverse = [.int .i64 (f : Int)] ++ nats (l.take i).reverse := by
  have hlt := (List.getElem?_eq_some_iff.1 h).1
  have hx : l[i] = f := by rw [List.getElem?_eq_getElem hlt] at h; injection h
  rw [List.take_succ_eq_append_getElem hlt, List.reverse_append, hx]
  rfl
def curOf (l : List Nat) (i : Nat) : Int := match l[i]? with | some f => (f : Int) | none => -1
theorem cur_some {l : List Nat} {i f : Nat} (h : l[i]? = some f) : curOf l i = (f : Int) := by unfold curOf; rw [h]
theorem cur_get {l : List Nat} {i : Nat} (h : 0 ≤ curOf l i) : ∃ f, l[i]? = some f := by
  unfold curOf at h
  cases hf : l[i]? with
  | none => rw [hf] at h; dsimp only at h; omega
  | some f => exact ⟨f, rfl⟩
theorem cur_end {l : List Nat} {i n : Nat} (h : ¬ 0 ≤ curOf l i) (hi : i ≤ l.length) (hn : l.length = n := by rw [fpath_length]) : i = n := by
  subst hn
  unfold curOf at h
  cases hf : l[i]? with
  | none => have := List.getElem?_eq_none_iff.1 hf; omega
  | some f => rw [hf] at h; dsimp only at h; omega
theorem cur_zero {sh : List (Nat × Nat)} {k : Nat} {s0 : Nat × Nat} (h : sh[0]? = some s0) : curOf (fpath sh 0 k) 0 = (k : Int) := by
  cases sh with
  | nil => simp at h
  | cons s sh => simp [curOf, fpath]
theorem total_fine {sh : List (Nat × Nat)} (h : Fine sh) : total sh ≤ 6000000 := by
  have key : ∀ (sh : List (Nat × Nat)), (∀ (i : Nat) (s : Nat × Nat), sh[i]? = some s → s.1 * s.2 ≤ 100000) → total sh ≤ sh.length * 100000 := by
    intro sh
    induction sh with
    | nil => intro _; simp [total]
    | cons s sh ih =>
      intro h
      have h1 := h 0 s rfl
      have h2 := ih fun i s' hs => h (i + 1) s' hs
      simp only [total, List.length_cons]; omega
  have := key sh h.2.2
  have := h.2.1
  omega
def WayOk (bound : Int) : List Nat → List Nd → Int → Prop
  | [], _, _ => True
  | p :: ps, T, low => max (T.getD p ⟨0, 0, false⟩).low low ≤ (T.getD p ⟨0, 0, false⟩).n ∧
      WayOk bound ps (T.set p (encNode (T.getD p ⟨0, 0, false⟩) low bound).2) (encNode (T.getD p ⟨0, 0, false⟩) low bound).2.low
theorem wayOk_step {l : List Nat} {j f : Nat} {T : List Nd} {nd : Nd} {low bound : Int} (h : l[j]? = some f) (hnd : T[f]? = some nd) (hw : WayOk bound (l.drop j) T low) :
    max nd.low low ≤ nd.n ∧ WayOk bound (l.drop (j + 1)) (T.set f (encNode nd low bound).2) (encNode nd low bound).2.low := by
  have hlt := (List.getElem?_eq_some_iff.1 h).1
  have hx : l[j] = f := by rw [List.getElem?_eq_getElem hlt] at h; injection h
  rw [List.drop_eq_getElem_cons hlt, hx] at hw
  simp only [WayOk] at hw
  have e : T.getD f ⟨0, 0, false⟩ = nd := by rw [List.getD_eq_getElem?_getD, hnd]; rfl
  rw [e] at hw
  exact hw
theorem tway_lt {sh : List (Nat × Nat)} {k : Int} {j f : Nat} (hH : Halves sh) (h : (tway sh k)[j]? = some f) : f < total sh := by
  obtain ⟨i, s, p, jj, h1, _, h3, h4, _⟩ := way_at (ps := List.replicate sh.length 0) hH (by simp) h
  have := offs_lt h1
  omega
end Go.Eng
/- Plain: small numbers of packets, layers. -/
set_option linter.unusedVariables false
set_option linter.unusedSimpArgs false
namespace Go.Eng
open Go
def lg (n : Int) : Nat := n.toNat.log2
theorem lg_more {n : Nat} {k : Nat} : (0 < (n : Int) / 2 ^ ((k : Int) + 1).toNat) ↔ k + 1 ≤ lg n := by
  unfold lg
  rw [Int.toNat_natCast, show ((k : Int) + 1).toNat = k + 1 by omega]
  have e : (n : Int) / 2 ^ (k + 1) = ((n / 2 ^ (k + 1) : Nat) : Int) := by simp
  rw [e]
  by_cases hn : n = 0
  · subst hn; simp
  · rw [Nat.le_log2 hn]
    constructor
    · intro h
      by_cases hc : 2 ^ (k + 1) ≤ n
      · exact hc
      · rw [Nat.div_eq_of_lt (by omega)] at h; simp at h
    · intro h
      have : 0 < n / 2 ^ (k + 1) := Nat.div_pos h (Nat.two_pow_pos _)
      omega
theorem lg_le {n : Nat} (h : n < 2 ^ 63) : lg n ≤ 63 := by
  unfold lg
  rw [Int.toNat_natCast]
  by_cases hn : n = 0
  · subst hn; simp
  · have := (Nat.log2_lt hn).2 h
    omega
def tellBits (n : Int) : List Bool :=
  if n < 2 then [decide ((0 : Int) % 2 = 1)] else if n < 3 then bitsOf 2 2 else if n < 6 then bitsOf 3 2 ++ bitsOf (n - 3) 2
  else if n < 37 then bitsOf 15 4 ++ bitsOf (n - 6) 5 else bitsOf 511 9 ++ bitsOf (n - 37) 7
theorem tell_small {n : Int} (h1 : ¬ n < 3) (h2 : n ≤ 5) : bitsOf (12 + n - 3) 4 = bitsOf 3 2 ++ bitsOf (n - 3) 2 := by
  have : n = 3 ∨ n = 4 ∨ n = 5 := by omega
  rcases this with rfl | rfl | rfl <;> decide
def passesF (total count l : Nat) : Nat := if l < 1 then 0 else if count < l then total else total * l / count
theorem passesF_le {total count l : Nat} : passesF total count l ≤ total := by
  unfold passesF
  split
  · omega
  · split
    · omega
    · rename_i h1 h2
      have h3 : total * l ≤ total * count := Nat.mul_le_mul_left _ (by omega)
      have h4 : 0 < count := by omega
      calc total * l / count ≤ total * count / count := Nat.div_le_div_right h3
        _ = total := Nat.mul_div_cancel _ h4
end Go.Eng
/- Plain: which passes end a segment; segments. -/
set_option linter.unusedVariables false
set_option linter.unusedSimpArgs false
namespace Go.Eng
open Go
def hasF (style way : Int) : Int := bitk .i64 (· &&& ·) style way
def endsF (style k : Int) : Bool :=
  if k < 0 then false else if hasF style 4 ≠ 0 then true else if hasF style 1 = 0 then false else decide (k % 3 = 0 ∧ 9 ≤ k ∨ k % 3 = 2 ∧ 10 ≤ k)
def kindF (k : Int) : Int := if k = 0 then 2 else (k - 1) % 3
theorem ends_neg {style k : Int} (h : k < 0) : endsF style k = false := if_pos h
theorem ends_all {style k : Int} (h : ¬ k < 0) (h1 : hasF style 4 ≠ 0) : endsF style k = true := (if_neg h).trans (if_pos h1)
theorem ends_no {style k : Int} (h : ¬ k < 0) (h1 : ¬ hasF style 4 ≠ 0) (h2 : hasF style 1 = 0) : endsF style k = false := (if_neg h).trans ((if_neg h1).trans (if_pos h2))
theorem ends_some {style k : Int} (h : ¬ k < 0) (h1 : ¬ hasF style 4 ≠ 0) (h2 : ¬ hasF style 1 = 0) : endsF style k = decide (k % 3 = 0 ∧ 9 ≤ k ∨ k % 3 = 2 ∧ 10 ≤ k) := (if_neg h).trans ((if_neg h1).trans (if_neg h2))
theorem bool_dec {p : Prop} [Decidable p] (h : p) : true = decide p := (decide_eq_true h).symm
theorem bool_ndec {p : Prop} [Decidable p] (h : ¬ p) : false = decide p := (decide_eq_false h).symm
theorem dec_dec {p q : Prop} [Decidable p] [Decidable q] (h : p ↔ q) : decide p = decide q := by rw [Bool.eq_iff_iff]; simp [h]
end Go.Eng
/- Plain: segments of passes. -/
set_option linter.unusedVariables false
set_option linter.unusedSimpArgs false
namespace Go.Eng
open Go
def cuts (style : Int) (to : Nat) : Nat → Nat → List Nat
  | 0, _ => []
  | n + 1, k => if k + 1 = to ∨ endsF style k = true then k :: cuts style to n (k + 1) else cuts style to n (k + 1)
def segs (ends : List Int) : List Nat → Nat → Int → List (Nat × Int)
  | [], _, _ => []
  | c :: cs, prev, was => (c + 1 - prev, ends.getD c 0 - was) :: segs ends cs (c + 1) (ends.getD c 0)
def was0 (frm : Nat) (ends : List Int) : Int := if 0 < frm then ends.getD (frm - 1) 0 else 0
def segsF (style : Int) (frm to : Nat) (ends : List Int) : List (Nat × Int) := segs ends (cuts style to (to - frm) frm) frm (was0 frm ends)
def pcs : List Nat → Nat → List (Nat × Nat)
  | [], _ => []
  | c :: cs, prev => (prev, c + 1) :: pcs cs (c + 1)
theorem segs_length (ends : List Int) : ∀ (cs : List Nat) (p : Nat) (w : Int), (segs ends cs p w).length = cs.length := by
  intro cs
  induction cs with
  | nil => intros; rfl
  | cons c cs ih => intros; simp [segs, ih]
theorem cuts_length {style : Int} {to : Nat} : ∀ (n k : Nat), (cuts style to n k).length ≤ n := by
  intro n
  induction n with
  | zero => intro k; simp [cuts]
  | succ n ih =>
    intro k
    simp only [cuts]
    split
    · simp; exact ih _
    · have := ih (k + 1); omega
def wasAt (ends : List Int) (cs : List Nat) (was : Int) : Nat → Int
  | 0 => was
  | i + 1 => ends.getD (cs.getD i 0) 0
def prevAt (cs : List Nat) (prev : Nat) : Nat → Nat
  | 0 => prev
  | i + 1 => cs.getD i 0 + 1
theorem segs_get (ends : List Int) : ∀ (cs : List Nat) (prev : Nat) (was : Int) (i c : Nat), cs[i]? = some c →
    (segs ends cs prev was)[i]? = some (c + 1 - prevAt cs prev i, ends.getD c 0 - wasAt ends cs was i) := by
  intro cs
  induction cs with
  | nil => intro prev was i c h; simp at h
  | cons a cs ih =>
    intro prev was i c h
    cases i with
    | zero => simp at h; subst h; rfl
    | succ i =>
      simp only [List.getElem?_cons_succ] at h
      simp only [segs, List.getElem?_cons_succ]
      rw [ih _ _ _ _ h]
      cases i <;> rfl
theorem pcs_get : ∀ (cs : List Nat) (prev i c : Nat), cs[i]? = some c → (pcs cs prev)[i]? = some (prevAt cs prev i, c + 1) := by
  intro cs
  induction cs with
  | nil => intro prev i c h; simp at h
  | cons a cs ih =>
    intro prev i c h
    cases i with
    | zero => simp at h; subst h; rfl
    | succ i =>
      simp only [List.getElem?_cons_succ] at h
      simp only [pcs, List.getElem?_cons_succ]
      rw [ih _ _ _ h]
      cases i <;> rfl
theorem prev_le {style : Int} {to : Nat} : ∀ {n k i c : Nat} {prev : Nat}, prev ≤ k → (cuts style to n k)[i]? = some c → prevAt (cuts style to n k) prev i ≤ c ∧ k ≤ c ∧ c < k + n := by
  intro n
  induction n with
  | zero => intro k i c prev _ h; simp [cuts] at h
  | succ n ih =>
    intro k i c prev hp h
    simp only [cuts] at h ⊢
    split at h
    · rename_i hc
      rw [if_pos hc]
      cases i with
      | zero => simp at h; subst h; simp only [prevAt]; omega
      | succ i =>
        simp only [List.getElem?_cons_succ] at h
        have h2 := ih (prev := k + 1) (Nat.le_refl _) h
        have : prevAt (k :: cuts style to n (k + 1)) prev (i + 1) = prevAt (cuts style to n (k + 1)) (k + 1) i := by cases i <;> rfl
        rw [this]; omega
    · rename_i hc
      rw [if_neg hc]
      have h2 := ih (prev := prev) (by omega) h
      omega
theorem i64s_getD {l : List Int} {i : Nat} (h : i < l.length) : (i64s l)[i]? = some (.int .i64 (l.getD i 0)) := by
  simp [i64s, h]
def EndsOk (l : List Int) : Prop := ∀ x ∈ l, 0 ≤ x ∧ x ≤ 1000000000000
theorem EndsOk.getD {l : List Int} (h : EndsOk l) (i : Nat) : 0 ≤ l.getD i 0 ∧ l.getD i 0 ≤ 1000000000000 := by
  rw [List.getD_eq_getElem?_getD]
  cases hx : l[i]? with
  | none => simp
  | some x => exact h x (List.mem_of_getElem? hx)
theorem EndsOk.was0 {l : List Int} (h : EndsOk l) (i : Nat) : 0 ≤ was0 i l ∧ was0 i l ≤ 1000000000000 := by
  unfold Eng.was0; split
  · exact h.getD _
  · omega
theorem EndsOk.wasAt {l : List Int} (h : EndsOk l) {cs : List Nat} {w : Int} (hw : 0 ≤ w ∧ w ≤ 1000000000000) (i : Nat) : 0 ≤ wasAt l cs w i ∧ wasAt l cs w i ≤ 1000000000000 := by
  cases i with
  | zero => exact hw
  | succ i => exact h.getD _
theorem take_next {α : Type} {l : List α} {i : Nat} {x : α} (h : l[i]? = some x) : l.take (i + 1) = l.take i ++ [x] := by
  rw [List.take_add_one, h]; rfl
theorem nats_append (l m : List Nat) : nats (l ++ m) = nats l ++ nats m := by simp [nats]
theorem nats_map_next {l : List (Nat × Int)} {i a : Nat} {b : Int} (h : l[i]? = some (a, b)) : nats ((l.take (i + 1)).map (·.1)) = nats ((l.take i).map (·.1)) ++ [.int .i64 (a : Int)] := by
  rw [take_next h, List.map_append, nats_append]; rfl
theorem i64s_map_next {l : List (Nat × Int)} {i a : Nat} {b : Int} (h : l[i]? = some (a, b)) : i64s ((l.take (i + 1)).map (·.2)) = i64s ((l.take i).map (·.2)) ++ [.int .i64 b] := by
  rw [take_next h, List.map_append, i64s_append]; rfl
theorem nats_map_snoc {l : List (Nat × Int)} {a : Nat} {b : Int} : nats ((l ++ [(a, b)]).map (·.1)) = nats (l.map (·.1)) ++ [.int .i64 (a : Int)] := by
  rw [List.map_append, nats_append]; rfl
theorem i64s_map_snoc {l : List (Nat × Int)} {a : Nat} {b : Int} : i64s ((l ++ [(a, b)]).map (·.2)) = i64s (l.map (·.2)) ++ [.int .i64 b] := by
  rw [List.map_append, i64s_append]; rfl
end Go.Eng
/- Plain: bands of blocks, and what a packet says of them. -/
set_option linter.unusedVariables false
set_option linter.unusedSimpArgs false
namespace Go.Eng
open Go
structure Bk where
  pl : Int
  ps : List (Int × Bool)
  bys : List Nat
structure Bs where
  b : Bk
  said : Nat
  lb : Nat
structure Bd where
  planes : Int
  sh : List (Nat × Nat)
  first : List Nd
  zeros : List Nd
  set : Bool
  ss : List Bs
def endsOf (b : Bk) : List Int := b.ps.map (·.1)
theorem endsOf_length (b : Bk) : (endsOf b).length = b.ps.length := by simp [endsOf]
structure BkOk (b : Bk) : Prop where
  len : b.ps.length ≤ 100
  pl0 : 0 ≤ b.pl
  pl1 : b.pl ≤ 1000
  ends : EndsOk (endsOf b)
  up : ∀ i j, i ≤ j → j < b.ps.length → (endsOf b).getD i 0 ≤ (endsOf b).getD j 0
  le : ∀ i, i < b.ps.length → (endsOf b).getD i 0 ≤ b.bys.length
  size : b.bys.length ≤ 100000000
  byte : ∀ x ∈ b.bys, x < 256
structure BsOk (s : Bs) : Prop where
  b : BkOk s.b
  said : s.said ≤ s.b.ps.length
  lb : s.lb ≤ 50
def noughts (n : Nat) : List Int := List.replicate n 0
structure BdOk (bd : Bd) : Prop where
  p0 : 0 ≤ bd.planes
  p1 : bd.planes ≤ 1000
  fine : Fine bd.sh
  ends : Ends1 bd.sh
  leaves : leavesOf bd.sh = bd.ss.length
  fl : bd.first.length = total bd.sh
  zl : bd.zeros.length = total bd.sh
  ss : ∀ s ∈ bd.ss, BsOk s
  none : bd.set = false → bd.first = mk0 (mins bd.sh (noughts bd.ss.length)) ∧ bd.zeros = mk0 (mins bd.sh (noughts bd.ss.length))
def firstL (n count : Nat) : Nat → Nat → Nat
  | 0, l => l
  | f + 1, l => if passesF n count (l + 1) = 0 then firstL n count f (l + 1) else l
def firstOf (n count : Nat) : Nat := firstL n count count 0
def firstNums (count : Nat) (bd : Bd) : List Int := bd.ss.map fun s => (firstOf s.b.ps.length count : Int)
def zeroNums (bd : Bd) : List Int := bd.ss.map fun s => max (bd.planes - s.b.pl) 0
def plantF (count : Nat) (bd : Bd) : Bd :=
  if bd.set = true then bd else { bd with set := true, first := mk0 (mins bd.sh (firstNums count bd)), zeros := mk0 (mins bd.sh (zeroNums bd)) }
def zlF (sh : List (Nat × Nat)) (k : Nat) : Nat → Nat → List Nd → List Bool × List Nd
  | 0, _, T => ([], T)
  | f + 1, n, T =>
    let r := encT sh T k n
    let r2 := zlF sh k f (n + 1) r.2
    (r.1 ++ r2.1, r2.2)
def needF (lb : Nat) (sg : List (Nat × Int)) : Nat := sg.foldl (fun a x => if 0 < x.2 then max a (lg x.2 + 1 - lg (x.1 : Int)) else a) lb
def sizeBits (nd : Nat) (sg : List (Nat × Int)) : List Bool := sg.flatMap fun x => bitsOf x.2 ((nd + lg (x.1 : Int) : Nat) : Int)
structure HR where
  bits : List Bool
  first : List Nd
  zeros : List Nd
  lb : Nat
def head1 (layer to : Nat) (bd : Bd) (k : Nat) (s : Bs) : List Bool × List Nd :=
  if s.said = 0 then encT bd.sh bd.first k ((layer + 1 : Nat) : Int) else ([decide (s.said < to)], bd.first)
def head2 (bd : Bd) (k : Nat) (s : Bs) : List Bool × List Nd :=
  if s.said = 0 then zlF bd.sh k ((max (bd.planes - s.b.pl) 0).toNat + 1) 1 bd.zeros else ([], bd.zeros)
def segOf (style : Int) (to : Nat) (s : Bs) : List (Nat × Int) := segsF style s.said to (endsOf s.b)
def headF (style : Int) (layer to : Nat) (bd : Bd) (k : Nat) (s : Bs) : HR :=
  if to = s.said then ⟨(head1 layer to bd k s).1, (head1 layer to bd k s).2, bd.zeros, s.lb⟩ else
    ⟨(head1 layer to bd k s).1 ++ (head2 bd k s).1 ++ tellBits (((to - s.said : Nat) : Int)) ++ List.replicate (needF s.lb (segOf style to s) - s.lb) true ++ [false] ++ sizeBits (needF s.lb (segOf style to s)) (segOf style to s),
      (head1 layer to bd k s).2, (head2 bd k s).2, needF s.lb (segOf style to s)⟩
def bodyF (s : Bs) (to : Nat) : List Nat := (s.b.bys.take ((endsOf s.b).getD (to - 1) 0).toNat).drop (was0 s.said (endsOf s.b)).toNat
def toOf (count layer : Nat) (s : Bs) : Nat := max (passesF s.b.ps.length count (layer + 1)) s.said
def stepF (style : Int) (count layer : Nat) (bd : Bd) (k : Nat) (s : Bs) : Bd :=
  { bd with first := (headF style layer (toOf count layer s) bd k s).first, zeros := (headF style layer (toOf count layer s) bd k s).zeros,
            ss := bd.ss.set k { s with said := toOf count layer s, lb := (headF style layer (toOf count layer s) bd k s).lb } }
def spotsL : List Nat → Nat → List (Nat × Nat)
  | [], _ => []
  | n :: ns, j => (List.range n).map (fun k => (j, k)) ++ spotsL ns (j + 1)
def counts (bds : List Bd) : List Nat := bds.map fun b => b.ss.length
def plantStep (count : Nat) (bds : List Bd) (x : Nat × Nat) : List Bd :=
  match bds[x.1]? with
  | some bd => bds.set x.1 (plantF count bd)
  | none => bds
def moreAt (count layer : Nat) (bds : List Bd) (x : Nat × Nat) : Bool :=
  match bds[x.1]? with
  | some bd => match bd.ss[x.2]? with
    | some s => decide (s.said < passesF s.b.ps.length count (layer + 1))
    | none => false
  | none => false
structure ES where
  bits : List Bool
  body : List Nat
  bds : List Bd
def encStep (style : Int) (count layer : Nat) (e : ES) (x : Nat × Nat) : ES :=
  match e.bds[x.1]? with
  | some bd => match bd.ss[x.2]? with
    | some s => ⟨e.bits ++ (headF style layer (toOf count layer s) bd x.2 s).bits, e.body ++ (if s.said < toOf count layer s then bodyF s (toOf count layer s) else []), e.bds.set x.1 (stepF style count layer bd x.2 s)⟩
    | none => e
  | none => e
def planted (count : Nat) (bds : List Bd) : List Bd := (spotsL (counts bds) 0).foldl (plantStep count) bds
def anyMore (count layer : Nat) (bds : List Bd) : Bool := (spotsL (counts bds) 0).any (moreAt count layer bds)
def encAll (style : Int) (count layer : Nat) (bds : List Bd) : ES := (spotsL (counts bds) 0).foldl (encStep style count layer) ⟨[true], [], planted count bds⟩
def encF (style : Int) (count layer : Nat) (bds : List Bd) : ES :=
  if anyMore count layer bds = true then encAll style count layer bds else ⟨[false], [], planted count bds⟩
def offL : List Nat → Nat → Nat
  | _, 0 => 0
  | [], _ => 0
  | n :: ns, j + 1 => n + offL ns j
theorem spots_get : ∀ {ns : List Nat} {j0 j n k : Nat}, ns[j]? = some n → k < n → (spotsL ns j0)[offL ns j + k]? = some (j0 + j, k) := by
  intro ns
  induction ns with
  | nil => intro j0 j n k h; simp at h
  | cons m ns ih =>
    intro j0 j n k h hk
    cases j with
    | zero =>
      simp at h; subst h
      simp only [offL, spotsL, Nat.zero_add]
      rw [List.getElem?_append_left (by simpa using hk)]
      simp [hk]
    | succ j =>
      simp only [List.getElem?_cons_succ] at h
      simp only [offL, spotsL]
      rw [List.getElem?_append_right (by simp; omega)]
      simp only [List.length_map, List.length_range]
      rw [show m + offL ns j + k - m = offL ns j + k by omega, ih h hk]
      congr 2; omega
theorem spots_length : ∀ (ns : List Nat) (j : Nat), (spotsL ns j).length = offL ns ns.length := by
  intro ns
  induction ns with
  | nil => intro j; rfl
  | cons n ns ih => intro j; simp [spotsL, offL, ih]
theorem off_succ : ∀ {ns : List Nat} {j n : Nat}, ns[j]? = some n → offL ns (j + 1) = offL ns j + n := by
  intro ns
  induction ns with
  | nil => intro j n h; simp at h
  | cons m ns ih =>
    intro j n h
    cases j with
    | zero => simp at h; subst h; cases ns <;> simp [offL]
    | succ j =>
      simp only [List.getElem?_cons_succ] at h
      simp only [offL] at ih ⊢
      rw [ih h]; omega
theorem off_le : ∀ (ns : List Nat) (j : Nat), offL ns j ≤ offL ns ns.length := by
  intro ns
  induction ns with
  | nil => intro j; cases j <;> simp [offL]
  | cons m ns ih =>
    intro j
    cases j with
    | zero => simp [offL]
    | succ j => simp only [offL, List.length_cons]; have := ih j; omega
theorem spots_mem : ∀ {ns : List Nat} {j0 i j k : Nat}, (spotsL ns j0)[i]? = some (j, k) → j0 ≤ j ∧ ∃ n, ns[j - j0]? = some n ∧ k < n := by
  intro ns
  induction ns with
  | nil => intro j0 i j k h; simp [spotsL] at h
  | cons m ns ih =>
    intro j0 i j k h
    simp only [spotsL] at h
    by_cases hi : i < m
    · rw [List.getElem?_append_left (by simpa using hi)] at h
      simp [hi] at h
      obtain ⟨rfl, rfl⟩ := h
      exact ⟨Nat.le_refl _, m, by simp, hi⟩
    · rw [List.getElem?_append_right (by simp; omega)] at h
      obtain ⟨h1, n, h2, h3⟩ := ih h
      refine ⟨by omega, n, ?_, h3⟩
      rw [show j - j0 = (j - (j0 + 1)) + 1 by omega]
      simpa using h2
theorem foldl_take {α β : Type} {f : α → β → α} {a : α} {l : List β} {i : Nat} {x : β} (h : l[i]? = some x) : (l.take (i + 1)).foldl f a = f ((l.take i).foldl f a) x := by
  rw [take_next h, List.foldl_append]; rfl
theorem any_take {β : Type} {f : β → Bool} {l : List β} {i : Nat} {x : β} (h : l[i]? = some x) : (l.take (i + 1)).any f = ((l.take i).any f || f x) := by
  rw [take_next h, List.any_append]; simp
def noBk : Bk := ⟨0, [], []⟩
def newBd (planes : Int) (w h : Nat) : Bd :=
  ⟨planes, tshape w h, List.replicate (total (tshape w h)) ⟨0, 0, false⟩, List.replicate (total (tshape w h)) ⟨0, 0, false⟩, false, List.replicate (w * h) ⟨noBk, 0, 3⟩⟩
theorem spots_one {n i : Nat} (h : i < n) : (spotsL [n] 0)[i]? = some (0, i) := by
  have := spots_get (ns := [n]) (j0 := 0) (j := 0) (n := n) (k := i) rfl h
  simpa [offL] using this
theorem spots_one_length (n : Nat) : (spotsL [n] 0).length = n := by rw [spots_length]; simp [offL]
def partN (nums : List Int) (i : Nat) : List Int := nums.take i ++ noughts (nums.length - i)
theorem partN_length {nums : List Int} {i : Nat} (h : i ≤ nums.length) : (partN nums i).length = nums.length := by simp [partN, noughts]; omega
theorem partN_zero (nums : List Int) : partN nums 0 = noughts nums.length := by simp [partN]
theorem partN_all (nums : List Int) : partN nums nums.length = nums := by simp [partN, noughts]
theorem partN_set {nums : List Int} {i : Nat} {x : Int} (h : nums[i]? = some x) : (partN nums i).set i x = partN nums (i + 1) := by
  obtain ⟨hi, rfl⟩ := List.getElem?_eq_some_iff.1 h
  unfold partN noughts
  have e : nums.length - i = (nums.length - (i + 1)) + 1 := by omega
  rw [e, List.replicate_succ, List.set_append_right _ _ (by simp; omega)]
  have e2 : i - (nums.take i).length = 0 := by simp; omega
  rw [e2, List.set_cons_zero, take_next h, List.append_assoc]; rfl
theorem leaf0 {sh : List (Nat × Nat)} {n : Nat} (h : leavesOf sh = n) (hn : 0 < n) : ∃ s, sh[0]? = some s ∧ s.1 * s.2 = n := by
  unfold leavesOf at h
  rw [List.head?_eq_getElem?] at h
  cases hs : sh[0]? with
  | none => rw [hs] at h; simp at h; omega
  | some s => rw [hs] at h; exact ⟨s, rfl, h⟩
def plI (count : Nat) (bd : Bd) (i : Nat) : Bd :=
  { bd with set := true, first := mk0 (mins bd.sh (partN (firstNums count bd) i)), zeros := mk0 (mins bd.sh (partN (zeroNums bd) i)) }
theorem plI_zero {count : Nat} {bd : Bd} (h : bd.first = mk0 (mins bd.sh (noughts bd.ss.length)) ∧ bd.zeros = mk0 (mins bd.sh (noughts bd.ss.length))) :
    plI count bd 0 = { bd with set := true } := by
  unfold plI
  rw [partN_zero, partN_zero]
  have h1 : (firstNums count bd).length = bd.ss.length := by simp [firstNums]
  have h2 : (zeroNums bd).length = bd.ss.length := by simp [zeroNums]
  rw [h1, h2, ← h.1, h.1, ← h.2]
theorem plI_all {count : Nat} {bd : Bd} (h : ¬ bd.set = true) : plI count bd bd.ss.length = plantF count bd := by
  unfold plI plantF
  rw [if_neg h]
  have h1 : (firstNums count bd).length = bd.ss.length := by simp [firstNums]
  have h2 : (zeroNums bd).length = bd.ss.length := by simp [zeroNums]
  have e1 := partN_all (firstNums count bd)
  have e2 := partN_all (zeroNums bd)
  rw [h1] at e1
  rw [h2] at e2
  rw [e1, e2]
theorem firstOf_stop {n count l : Nat} (h : firstOf n count = firstL n count (count - l) l) (hl : l ≤ count) (hs : ¬ l < count ∨ passesF n count (l + 1) ≠ 0) : firstOf n count = l := by
  rw [h]
  cases hf : count - l with
  | zero => rfl
  | succ f =>
    rcases hs with hs | hs
    · omega
    · simp only [firstL]; rw [if_neg hs]
theorem firstOf_more {n count l : Nat} (h : firstOf n count = firstL n count (count - l) l) (hl : l < count) (hs : passesF n count (l + 1) = 0) : firstOf n count = firstL n count (count - (l + 1)) (l + 1) := by
  rw [h, show count - l = (count - (l + 1)) + 1 by omega]
  simp only [firstL]; rw [if_pos hs]
end Go.Eng
