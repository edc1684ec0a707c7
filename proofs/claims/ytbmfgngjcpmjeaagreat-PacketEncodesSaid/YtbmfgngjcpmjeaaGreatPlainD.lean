/- Plain models: the coder of a block, the law bands. -/
import Derived.Test.YtbmfgngjcpmjeaaGreatPlainC
/- Plain: the document's coder of blocks: states, the arithmetic coder, raw bits, contexts. -/
set_option linter.unusedVariables false
set_option linter.unusedSimpArgs false
namespace Go.Eng
open Go
abbrev wI (z : Int) : Int := IntKind.i64.wrap z
abbrev w8 (z : Int) : Int := IntKind.u8.wrap z
def byteQ (z : Int) : Nat := (w8 z).toNat
theorem w8_nonneg (z : Int) : 0 ≤ w8 z := by
  unfold w8 IntKind.wrap
  simp [IntKind.bits, IntKind.signed]
  omega
theorem byteQ_eq (z : Int) : ((byteQ z : Nat) : Int) = IntKind.u8.wrap z := Int.toNat_of_nonneg (w8_nonneg z)
theorem byteQ_lt (z : Int) : byteQ z < 256 := by
  have : w8 z < 256 := by
    unfold w8 IntKind.wrap
    simp [IntKind.bits, IntKind.signed]
    omega
  have := w8_nonneg z
  unfold byteQ; omega
def tblQ : List (Int × Int × Int × Int) :=
  [(22017, 1, 1, 1), (13313, 2, 6, 0), (6145, 3, 9, 0), (2753, 4, 12, 0), (1313, 5, 29, 0), (545, 38, 33, 0), (22017, 7, 6, 1), (21505, 8, 14, 0), (18433, 9, 14, 0), (14337, 10, 14, 0), (12289, 11, 17, 0), (9217, 12, 18, 0), (7169, 13, 20, 0), (5633, 29, 21, 0), (22017, 15, 14, 1),
   (21505, 16, 14, 0), (20737, 17, 15, 0), (18433, 18, 16, 0), (14337, 19, 17, 0), (13313, 20, 18, 0), (12289, 21, 19, 0), (10241, 22, 19, 0), (9217, 23, 20, 0), (8705, 24, 21, 0), (7169, 25, 22, 0), (6145, 26, 23, 0), (5633, 27, 24, 0), (5121, 28, 25, 0), (4609, 29, 26, 0), (4353, 30, 27, 0),
   (2753, 31, 28, 0), (2497, 32, 29, 0), (2209, 33, 30, 0), (1313, 34, 31, 0), (1089, 35, 32, 0), (673, 36, 33, 0), (545, 37, 34, 0), (321, 38, 35, 0), (273, 39, 36, 0), (133, 40, 37, 0), (73, 41, 38, 0), (37, 42, 39, 0), (21, 43, 40, 0), (9, 44, 41, 0), (5, 45, 42, 0), (1, 45, 43, 0), (22017, 46, 46, 0)]
def rowQ (i : Int) : Int × Int × Int × Int := tblQ.getD i.toNat (0, 0, 0, 0)
theorem tblQ_ok : ∀ q ∈ tblQ, 1 ≤ q.1 ∧ q.1 ≤ 22017 ∧ 0 ≤ q.2.1 ∧ q.2.1 ≤ 46 ∧ 0 ≤ q.2.2.1 ∧ q.2.2.1 ≤ 46 := by decide
theorem rowQ_ok {i : Int} (h0 : 0 ≤ i) (h1 : i ≤ 46) : 1 ≤ (rowQ i).1 ∧ (rowQ i).1 ≤ 22017 ∧ 0 ≤ (rowQ i).2.1 ∧ (rowQ i).2.1 ≤ 46 ∧ 0 ≤ (rowQ i).2.2.1 ∧ (rowQ i).2.2.1 ≤ 46 := by
  unfold rowQ
  have hl : i.toNat < tblQ.length := by simp [tblQ]; omega
  rw [List.getD_eq_getElem?_getD, List.getElem?_eq_getElem hl]
  exact tblQ_ok _ (List.getElem_mem hl)
def beginF (k : Int) : Int := if k = 0 then 4 else if k = 17 then 3 else if k = 18 then 46 else 0
structure MqE where
  a : Int
  c : Int
  ct : Int
  b : List Nat
abbrev andI (x y : Int) : Int := bitk .i64 (· &&& ·) x y
abbrev orI (x y : Int) : Int := bitk .i64 (· ||| ·) x y
abbrev xorI (x y : Int) : Int := bitk .i64 (· ^^^ ·) x y
def outF1 (e : MqE) : MqE :=
  if ((e.b.getD (e.b.length - 1) 0 : Nat) : Int) ≠ 255 ∧ 134217728 ≤ e.c then ⟨e.a, wI (e.c - 134217728), e.ct, e.b.set (e.b.length - 1) (byteQ ((e.b.getD (e.b.length - 1) 0 : Nat) + 1))⟩ else e
def outF (e0 : MqE) : MqE :=
  let e := outF1 e0
  if ((e.b.getD (e0.b.length - 1) 0 : Nat) : Int) = 255 then ⟨e.a, andI e.c 1048575, 7, e.b ++ [byteQ (e.c / 2 ^ 20)]⟩
  else ⟨e.a, andI e.c 524287, 8, e.b ++ [byteQ (e.c / 2 ^ 19)]⟩
def renStep (e : MqE) : MqE :=
  if wI (e.ct - 1) = 0 then outF ⟨2 * e.a, wI (2 * e.c), wI (e.ct - 1), e.b⟩ else ⟨2 * e.a, wI (2 * e.c), wI (e.ct - 1), e.b⟩
def renF : Nat → MqE → MqE
  | 0, e => e
  | f + 1, e => if e.a < 32768 then renF f (renStep e) else e
abbrev Cxs := List (Int × Int)
def mpsE (e : MqE) (q : Int) : MqE := if e.a - q < q then { e with a := q } else { e with a := e.a - q, c := wI (e.c + q) }
def lpsE (e : MqE) (q : Int) : MqE := if e.a - q < q then { e with a := e.a - q, c := wI (e.c + q) } else { e with a := q }
def encQ (e : MqE) (cx : Cxs) (k : Nat) (bit : Int) : MqE × Cxs :=
  let o := cx.getD k (0, 0)
  let q := rowQ o.1
  if andI bit 1 = o.2 then
    if 32768 ≤ e.a - q.1 then ({ e with a := e.a - q.1, c := wI (e.c + q.1) }, cx)
    else (renF 16 (mpsE e q.1), cx.set k (q.2.1, o.2))
  else (renF 16 (lpsE e q.1), cx.set k (q.2.2.1, if q.2.2.2 = 1 then wI (1 - o.2) else o.2))
def EqOk (e : MqE) : Prop := 32768 ≤ e.a ∧ e.a < 65536 ∧ 1 ≤ e.b.length
def CxOk (cx : Cxs) : Prop := cx.length = 19 ∧ ∀ o ∈ cx, 0 ≤ o.1 ∧ o.1 ≤ 46
theorem outF1_len (e : MqE) : (outF1 e).b.length = e.b.length ∧ (outF1 e).a = e.a := by
  unfold outF1; split <;> simp
theorem outF_len (e : MqE) : (outF e).b.length = e.b.length + 1 ∧ (outF e).a = e.a := by
  have := outF1_len e
  unfold outF
  dsimp only
  split <;> simp [this]
theorem renStep_len (e : MqE) : e.b.length ≤ (renStep e).b.length ∧ (renStep e).b.length ≤ e.b.length + 1 ∧ (renStep e).a = 2 * e.a := by
  unfold renStep
  split
  · have := outF_len ⟨2 * e.a, wI (2 * e.c), wI (e.ct - 1), e.b⟩
    dsimp only at this ⊢
    omega
  · dsimp only; omega
theorem renF_ok : ∀ (f : Nat) (e : MqE), 1 ≤ e.a → e.a < 65536 → 32768 ≤ e.a * 2 ^ f → 32768 ≤ (renF f e).a ∧ (renF f e).a < 65536 ∧ e.b.length ≤ (renF f e).b.length ∧ (renF f e).b.length ≤ e.b.length + f := by
  intro f
  induction f with
  | zero => intro e h0 h1 h2; simp only [renF]; rw [Int.pow_zero, Int.mul_one] at h2; omega
  | succ f ih =>
    intro e h0 h1 h2
    simp only [renF]
    split
    · have hs := renStep_len e
      have := ih (renStep e) (by omega) (by omega) (by
        rw [hs.2.2]
        rw [Int.pow_succ] at h2
        rw [Int.mul_comm 2 e.a, Int.mul_assoc, Int.mul_comm 2]
        exact h2)
      omega
    · omega
theorem CxOk.getD {cx : Cxs} (h : CxOk cx) {k : Nat} (hk : k < 19) : 0 ≤ (cx.getD k (0, 0)).1 ∧ (cx.getD k (0, 0)).1 ≤ 46 := by
  have hl : k < cx.length := by rw [h.1]; exact hk
  rw [List.getD_eq_getElem?_getD, List.getElem?_eq_getElem hl]
  exact h.2 _ (List.getElem_mem hl)
theorem CxOk.set {cx : Cxs} (h : CxOk cx) (k : Nat) {o : Int × Int} (ho : 0 ≤ o.1 ∧ o.1 ≤ 46) : CxOk (cx.set k o) := by
  refine ⟨by simp [h.1], fun x hx => ?_⟩
  rcases List.mem_or_eq_of_mem_set hx with hx | rfl
  · exact h.2 x hx
  · exact ho
theorem mpsE_ok {e : MqE} {q : Int} (h : EqOk e) (h1 : 1 ≤ q) (h2 : q ≤ 22017) : 1 ≤ (mpsE e q).a ∧ (mpsE e q).a < 65536 ∧ (mpsE e q).b = e.b := by
  obtain ⟨h3, h4, _⟩ := h
  unfold mpsE; split <;> (dsimp only; refine ⟨by omega, by omega, rfl⟩)
theorem lpsE_ok {e : MqE} {q : Int} (h : EqOk e) (h1 : 1 ≤ q) (h2 : q ≤ 22017) : 1 ≤ (lpsE e q).a ∧ (lpsE e q).a < 65536 ∧ (lpsE e q).b = e.b := by
  obtain ⟨h3, h4, _⟩ := h
  unfold lpsE; split <;> (dsimp only; refine ⟨by omega, by omega, rfl⟩)
theorem pow16 {a : Int} (h : 1 ≤ a) : 32768 ≤ a * 2 ^ 16 := by
  have : (2 : Int) ^ 16 = 65536 := by decide
  rw [this]; omega
theorem encQ_ok {e : MqE} {cx : Cxs} {k : Nat} {bit : Int} (h : EqOk e) (hc : CxOk cx) (hk : k < 19) :
    EqOk (encQ e cx k bit).1 ∧ CxOk (encQ e cx k bit).2 ∧ e.b.length ≤ (encQ e cx k bit).1.b.length ∧ (encQ e cx k bit).1.b.length ≤ e.b.length + 16 := by
  have hg := hc.getD hk
  obtain ⟨q1, q2, q3, q4, q5, q6⟩ := rowQ_ok hg.1 hg.2
  unfold encQ
  dsimp only
  split
  · split
    · rename_i h1
      obtain ⟨a1, a2, a3⟩ := h
      exact ⟨⟨h1, by dsimp only; omega, a3⟩, hc, by dsimp only; omega, by dsimp only; omega⟩
    · obtain ⟨m1, m2, m3⟩ := mpsE_ok h q1 q2
      obtain ⟨r1, r2, r3, r4⟩ := renF_ok 16 _ m1 m2 (pow16 m1)
      rw [m3] at r3 r4
      exact ⟨⟨r1, r2, by have := h.2.2; dsimp only; omega⟩, hc.set k ⟨q3, q4⟩, r3, r4⟩
  · obtain ⟨m1, m2, m3⟩ := lpsE_ok h q1 q2
    obtain ⟨r1, r2, r3, r4⟩ := renF_ok 16 _ m1 m2 (pow16 m1)
    rw [m3] at r3 r4
    exact ⟨⟨r1, r2, by have := h.2.2; dsimp only; omega⟩, hc.set k ⟨q5, q6⟩, r3, r4⟩
def flushE1 (e : MqE) : MqE :=
  let c1 := orI e.c 65535
  if wI (e.c + e.a) ≤ c1 then { e with c := wI (c1 - 32768) } else { e with c := c1 }
def flushStep (e : MqE) : MqE := outF { e with c := wI (e.c * 2 ^ min (IntKind.u64.wrap e.ct).toNat IntKind.i64.bits) }
def flushE (e : MqE) : MqE := flushStep (flushStep (flushE1 e))
theorem flushE_eq (e : MqE) : flushE e = flushStep (flushStep (flushE1 e)) := rfl
def cut255 (b : List Nat) : List Nat := if ((b.getD (b.length - 1) 0 : Nat) : Int) = 255 then b.take (b.length - 1) else b
def flushB (e : MqE) : List Nat := cut255 ((flushE e).b.drop 1)
structure RawW where
  b : List Nat
  cur : Int
  free : Int
  top : Int
def rawBit (w : RawW) (bit : Int) : RawW :=
  let free := wI (w.free - 1)
  let cur := orI w.cur (wI (andI bit 1 * 2 ^ min (IntKind.u64.wrap free).toNat IntKind.i64.bits))
  if 0 < free then { w with cur := cur, free := free } else
    if cur = 255 then ⟨w.b ++ [byteQ cur], 0, 7, 7⟩ else ⟨w.b ++ [byteQ cur], 0, 8, 8⟩
def rawOut (w : RawW) : Int := if w.free < w.top then (w.b.length : Int) + 1 else w.b.length
def rawFull (w : RawW) : List Nat := if w.free < w.top then w.b ++ [byteQ w.cur] else w.b
def rawFlush (w : RawW) : List Nat := if 0 < (rawFull w).length then cut255 (rawFull w) else rawFull w
def RawOk (w : RawW) : Prop := 1 ≤ w.free ∧ w.free ≤ w.top ∧ w.top ≤ 8
theorem rawBit_ok {w : RawW} {bit : Int} (h : RawOk w) : RawOk (rawBit w bit) ∧ rawOut w ≤ rawOut (rawBit w bit) ∧ (rawBit w bit).b.length ≤ w.b.length + 1 ∧ w.b.length ≤ (rawBit w bit).b.length := by
  obtain ⟨h1, h2, h3⟩ := h
  have hf : wI (w.free - 1) = w.free - 1 := wrap64_id (by omega) (by omega)
  unfold rawBit rawOut
  dsimp only
  rw [hf]
  split
  · refine ⟨⟨by dsimp only; omega, by dsimp only; omega, h3⟩, ?_, by dsimp only; omega, by dsimp only; omega⟩
    dsimp only
    rw [if_pos (show w.free - 1 < w.top by omega)]
    split <;> omega
  · split
    · refine ⟨⟨by simp, by simp, by simp⟩, ?_, by simp, by simp⟩
      simp; split <;> omega
    · refine ⟨⟨by simp, by simp, by simp⟩, ?_, by simp, by simp⟩
      simp; split <;> omega
def scanX (w h n : Nat) : Nat := (n - 4 * w * (n / w / 4)) / min 4 (h - 4 * (n / w / 4))
def scanY (w h n : Nat) : Nat := 4 * (n / w / 4) + (n - 4 * w * (n / w / 4)) % min 4 (h - 4 * (n / w / 4))
theorem scan_ok {w h n : Nat} (hn : n < w * h) : scanX w h n < w ∧ scanY w h n < h := by
  have hw : 0 < w := by
    rcases Nat.eq_zero_or_pos w with h0 | h0
    · subst h0; simp at hn
    · exact h0
  have h1 : n / w < h := Nat.div_lt_of_lt_mul hn
  have h2 : w * (n / w) ≤ n := Nat.mul_div_le n w
  have h3 : n < w * (n / w) + w := by have := Nat.div_add_mod n w; have := Nat.mod_lt n hw; omega
  generalize hq : n / w = q at h1 h2 h3
  generalize hs : q / 4 = s
  unfold scanX scanY
  rw [hq, hs]
  have h4 : 4 * s ≤ q := by omega
  have h5 : q < 4 * s + 4 := by omega
  have h6 : 4 * w * s ≤ n := by
    have : w * (4 * s) ≤ w * q := Nat.mul_le_mul_left _ h4
    have e : 4 * w * s = w * (4 * s) := by rw [Nat.mul_comm 4 w, Nat.mul_assoc]
    omega
  have hr : 0 < min 4 (h - 4 * s) := by omega
  constructor
  · refine Nat.div_lt_of_lt_mul ?_
    by_cases hc : 4 ≤ h - 4 * s
    · rw [Nat.min_eq_left hc]
      have : w * q + w ≤ w * (4 * s) + 4 * w := by
        have : w * q ≤ w * (4 * s + 3) := Nat.mul_le_mul_left _ (by omega)
        rw [Nat.mul_add] at this
        omega
      have e : 4 * w * s = w * (4 * s) := by rw [Nat.mul_comm 4 w, Nat.mul_assoc]
      omega
    · rw [Nat.min_eq_right (by omega)]
      have e : w * h = w * (4 * s) + w * (h - 4 * s) := by rw [← Nat.mul_add]; congr 1; omega
      have e2 : 4 * w * s = w * (4 * s) := by rw [Nat.mul_comm 4 w, Nat.mul_assoc]
      rw [Nat.mul_comm (h - 4 * s) w]
      omega
  · have := Nat.mod_lt (n - 4 * w * s) hr
    omega
def zeroF (band h v d : Int) : Int :=
  if band = 3 then
    if 3 ≤ d then 8 else if d = 2 then 6 + min (h + v) 1 else if d = 1 then 3 + min (h + v) 2 else min (h + v) 2
  else
    let x := if band = 1 then v else h
    let y := if band = 1 then h else v
    if x = 2 then 8 else if x = 1 ∧ 1 ≤ y then 7 else if x = 1 then 5 + min d 1 else if 0 < y then 2 + y else min d 2
theorem zeroF_ok {band h v d : Int} (h0 : 0 ≤ h) (h1 : h ≤ 2) (v0 : 0 ≤ v) (v1 : v ≤ 2) (d0 : 0 ≤ d) (d1 : d ≤ 4) : 0 ≤ zeroF band h v d ∧ zeroF band h v d ≤ 8 := by
  unfold zeroF
  dsimp only
  split
  · repeat (first | omega | split)
  · repeat (first | omega | split)
def turned (h v : Int) : Bool := decide (h < 0 ∨ h = 0 ∧ v < 0)
def signK (h v : Int) : Int :=
  let h' := if turned h v = true then 0 - h else h
  let v' := if turned h v = true then 0 - v else v
  if h' = 1 then 12 + v' else 9 + v'
def signT (h v : Int) : Int := if turned h v = true then 1 else 0
theorem signK_ok {h v : Int} (h0 : -1 ≤ h) (h1 : h ≤ 1) (v0 : -1 ≤ v) (v1 : v ≤ 1) : 9 ≤ signK h v ∧ signK h v ≤ 13 := by
  unfold signK turned
  dsimp only
  repeat (first | omega | split)
  all_goals (simp at *; omega)
def refineK (first : Bool) (n : Int) : Int := if first = false then 16 else if 0 < n then 15 else 14
def partCx (k : Nat) : Cxs := (List.range 19).map fun (i : Nat) => if i < k then (beginF (i : Int), (0 : Int)) else ((0 : Int), (0 : Int))
def freshCx : Cxs := (List.range 19).map fun (i : Nat) => (beginF (i : Int), (0 : Int))
theorem freshCx_ok : CxOk freshCx := by
  refine ⟨rfl, ?_⟩
  decide
theorem u8s_getD {l : List Nat} {i : Nat} (h : i < l.length) : (u8s l)[i]? = some (.int .u8 ((l.getD i 0 : Nat) : Int)) := by
  rw [List.getD_eq_getElem?_getD, List.getElem?_eq_getElem h]
  exact u8s_get (List.getElem?_eq_getElem h)
theorem flushE1_len (e : MqE) : (flushE1 e).b.length = e.b.length := by
  unfold flushE1; dsimp only; split <;> rfl
theorem rawFull_len2 (w : RawW) : w.b.length ≤ (rawFull w).length ∧ (rawFull w).length ≤ w.b.length + 1 := by
  unfold rawFull; split <;> simp
theorem scan_le (n w : Nat) : 4 * w * (n / w / 4) ≤ n := by
  have h1 : w * (n / w) ≤ n := Nat.mul_div_le n w
  have h2 : w * (4 * (n / w / 4)) ≤ w * (n / w) := Nat.mul_le_mul_left _ (by omega)
  have e : 4 * w * (n / w / 4) = w * (4 * (n / w / 4)) := by rw [Nat.mul_comm 4 w, Nat.mul_assoc]
  omega
end Go.Eng
/- Plain: the document's coder of a block. -/
set_option linter.unusedVariables false
set_option linter.unusedSimpArgs false
namespace Go.Eng
open Go
structure Cd where
  w : Nat
  h : Nat
  band : Int
  style : Int
  mag : List Int
  neg : List Int
  sig : List Bool
  seen : List Bool
  again : List Bool
  cx : Cxs
  raw : Bool
  e : MqE
  rw : RawW
structure CdOk (c : Cd) : Prop where
  w1 : 1 ≤ c.w
  w2 : c.w ≤ 64
  h1 : 1 ≤ c.h
  h2 : c.h ≤ 64
  mag : c.mag.length = c.w * c.h
  neg : c.neg.length = c.w * c.h
  sig : c.sig.length = c.w * c.h
  seen : c.seen.length = c.w * c.h
  again : c.again.length = c.w * c.h
  cx : CxOk c.cx
  e : EqOk c.e
  rw : RawOk c.rw
def sigF (c : Cd) (x y : Nat) (dx dy : Int) : Bool :=
  if (x : Int) + dx < 0 ∨ (c.w : Int) ≤ x + dx ∨ (y : Int) + dy < 0 ∨ (c.h : Int) ≤ y + dy ∨ (andI c.style 8 ≠ 0 ∧ 0 < dy ∧ (y : Int) % 4 = 3) then false
  else c.sig.getD (((y : Int) + dy) * c.w + (x + dx)).toNat false
def oneB (b : Bool) : Int := if b = true then 1 else 0
theorem oneB_le (b : Bool) : 0 ≤ oneB b ∧ oneB b ≤ 1 := by cases b <;> simp [oneB]
def aH (c : Cd) (x y : Nat) : Int := oneB (sigF c x y (-1) 0) + oneB (sigF c x y 1 0)
def aV (c : Cd) (x y : Nat) : Int := oneB (sigF c x y 0 (-1)) + oneB (sigF c x y 0 1)
def aD (c : Cd) (x y : Nat) : Int := oneB (sigF c x y (-1) (-1)) + oneB (sigF c x y 1 (-1)) + oneB (sigF c x y (-1) 1) + oneB (sigF c x y 1 1)
theorem a_le (c : Cd) (x y : Nat) : (0 ≤ aH c x y ∧ aH c x y ≤ 2) ∧ (0 ≤ aV c x y ∧ aV c x y ≤ 2) ∧ (0 ≤ aD c x y ∧ aD c x y ≤ 4) := by
  unfold aH aV aD
  have h1 := oneB_le (sigF c x y (-1) 0); have h2 := oneB_le (sigF c x y 1 0); have h3 := oneB_le (sigF c x y 0 (-1)); have h4 := oneB_le (sigF c x y 0 1)
  have h5 := oneB_le (sigF c x y (-1) (-1)); have h6 := oneB_le (sigF c x y 1 (-1)); have h7 := oneB_le (sigF c x y (-1) 1); have h8 := oneB_le (sigF c x y 1 1)
  omega
def ctxZ (c : Cd) (x y : Nat) : Int := zeroF c.band (aH c x y) (aV c x y) (aD c x y)
theorem ctxZ_ok (c : Cd) (x y : Nat) : 0 ≤ ctxZ c x y ∧ ctxZ c x y ≤ 8 := by
  obtain ⟨⟨a, b⟩, ⟨d, e⟩, f, g⟩ := a_le c x y
  exact zeroF_ok a b d e f g
def saysF (c : Cd) (x y : Nat) (dx dy : Int) : Int := if sigF c x y dx dy = false then 0 else wI (1 - wI (2 * c.neg.getD (((y : Int) + dy) * c.w + x + dx).toNat 0))
def clip (z : Int) : Int := max (min z 1) (-1)
theorem clip_ok (z : Int) : -1 ≤ clip z ∧ clip z ≤ 1 := by unfold clip; omega
def sH (c : Cd) (x y : Nat) : Int := clip (wI (saysF c x y (-1) 0 + saysF c x y 1 0))
def sV (c : Cd) (x y : Nat) : Int := clip (wI (saysF c x y 0 (-1) + saysF c x y 0 1))
def bitF (c : Cd) (k : Nat) (b : Int) : Cd := if c.raw = true then { c with rw := rawBit c.rw b } else { c with e := (encQ c.e c.cx k b).1, cx := (encQ c.e c.cx k b).2 }
def magB (c : Cd) (i plane : Nat) : Int := andI (c.mag.getD i 0 / 2 ^ plane) 1
def sT (c : Cd) (x y : Nat) : Int := if c.raw = true then 0 else signT (sH c x y) (sV c x y)
def sK (c : Cd) (x y : Nat) : Nat := (signK (sH c x y) (sV c x y)).toNat
def sN (c : Cd) (x y : Nat) : Int := xorI (c.neg.getD (y * c.w + x) 0) (sT c x y)
def signF (c : Cd) (x y : Nat) : Cd :=
  { bitF c (sK c x y) (sN c x y) with neg := c.neg.set (y * c.w + x) (xorI (sN c x y) (sT c x y)), sig := c.sig.set (y * c.w + x) true }
def BysOk (l : List Nat) : Prop := ∀ x ∈ l, x < 256
theorem BysOk.app {l m : List Nat} (h : BysOk l) (h' : BysOk m) : BysOk (l ++ m) := by
  intro x hx
  rcases List.mem_append.1 hx with hx | hx
  · exact h x hx
  · exact h' x hx
theorem BysOk.one (z : Int) : BysOk [byteQ z] := by
  intro x hx
  rw [List.mem_singleton] at hx
  subst hx; exact byteQ_lt z
theorem BysOk.set {l : List Nat} (h : BysOk l) (k : Nat) (z : Int) : BysOk (l.set k (byteQ z)) := by
  intro x hx
  rcases List.mem_or_eq_of_mem_set hx with hx | rfl
  · exact h x hx
  · exact byteQ_lt z
theorem BysOk.sub {l m : List Nat} (h : BysOk l) (h' : ∀ x ∈ m, x ∈ l) : BysOk m := fun x hx => h x (h' x hx)
theorem outF1_by {e : MqE} (h : BysOk e.b) : BysOk (outF1 e).b := by
  unfold outF1; split
  · exact h.set _ _
  · exact h
theorem outF_by {e : MqE} (h : BysOk e.b) : BysOk (outF e).b := by
  unfold outF; dsimp only; split <;> exact (outF1_by h).app (BysOk.one _)
theorem renStep_by {e : MqE} (h : BysOk e.b) : BysOk (renStep e).b := by
  unfold renStep; split
  · exact outF_by h
  · exact h
theorem renF_by : ∀ (f : Nat) {e : MqE}, BysOk e.b → BysOk (renF f e).b := by
  intro f
  induction f with
  | zero => intro e h; exact h
  | succ f ih => intro e h; simp only [renF]; split; exact ih (renStep_by h); exact h
theorem encQ_by {e : MqE} {cx : Cxs} {k : Nat} {bit : Int} (h : BysOk e.b) : BysOk (encQ e cx k bit).1.b := by
  unfold encQ; dsimp only
  split
  · split
    · exact h
    · refine renF_by 16 ?_; unfold mpsE; split <;> exact h
  · refine renF_by 16 ?_; unfold lpsE; split <;> exact h
theorem rawBit_by {w : RawW} {bit : Int} (h : BysOk w.b) : BysOk (rawBit w bit).b := by
  unfold rawBit; dsimp only
  split
  · exact h
  · split <;> exact h.app (BysOk.one _)
theorem cut255_by {b : List Nat} (h : BysOk b) : BysOk (cut255 b) := by
  unfold cut255; split
  · exact h.sub fun x hx => List.mem_of_mem_take hx
  · exact h
theorem flushB_by {e : MqE} (h : BysOk e.b) : BysOk (flushB e) := by
  have h1 : BysOk (flushE1 e).b := by unfold flushE1; dsimp only; split <;> exact h
  have h2 : BysOk (flushE e).b := outF_by (outF_by h1)
  exact cut255_by (h2.sub fun x hx => List.mem_of_mem_drop hx)
theorem rawFlush_by {w : RawW} (h : BysOk w.b) : BysOk (rawFlush w) := by
  have h1 : BysOk (rawFull w) := by unfold rawFull; split; exact h.app (BysOk.one _); exact h
  unfold rawFlush; split
  · exact cut255_by h1
  · exact h1
theorem cut255_len (b : List Nat) : (cut255 b).length ≤ b.length := by unfold cut255; split <;> simp
theorem flushB_len (e : MqE) : (flushB e).length ≤ e.b.length + 2 := by
  have h1 := (outF_len { flushE1 e with c := wI ((flushE1 e).c * 2 ^ min (IntKind.u64.wrap (flushE1 e).ct).toNat IntKind.i64.bits) }).1
  have h2 := (outF_len { flushStep (flushE1 e) with c := wI ((flushStep (flushE1 e)).c * 2 ^ min (IntKind.u64.wrap (flushStep (flushE1 e)).ct).toNat IntKind.i64.bits) }).1
  have h3 := flushE1_len e
  have h4 : (flushE e).b.length = e.b.length + 2 := by
    show (flushStep (flushStep (flushE1 e))).b.length = _
    have e1 : (flushStep (flushE1 e)).b.length = e.b.length + 1 := by rw [← h3]; exact h1
    rw [show (flushStep (flushStep (flushE1 e))).b.length = (flushStep (flushE1 e)).b.length + 1 from h2, e1]
  have h5 := cut255_len ((flushE e).b.drop 1)
  unfold flushB
  rw [List.length_drop] at h5
  omega
theorem rawFlush_len (w : RawW) : (rawFlush w).length ≤ w.b.length + 1 := by
  have h1 := rawFull_len2 w
  have h2 := cut255_len (rawFull w)
  unfold rawFlush; split <;> omega
def ByOk (c : Cd) : Prop := BysOk c.e.b ∧ BysOk c.rw.b
structure Adv (c c' : Cd) (n : Nat) : Prop where
  w : c'.w = c.w
  h : c'.h = c.h
  band : c'.band = c.band
  style : c'.style = c.style
  raw : c'.raw = c.raw
  mag : c'.mag = c.mag
  ok : CdOk c'
  e1 : c'.e.b.length ≤ c.e.b.length + n
  e2 : c.e.b.length ≤ c'.e.b.length
  r1 : c'.rw.b.length ≤ c.rw.b.length + n
  r2 : rawOut c.rw ≤ rawOut c'.rw
  by' : ByOk c → ByOk c'
theorem Adv.refl {c : Cd} (h : CdOk c) : Adv c c 0 := ⟨rfl, rfl, rfl, rfl, rfl, rfl, h, Nat.le_refl _, Nat.le_refl _, Nat.le_refl _, Int.le_refl _, id⟩
theorem Adv.trans {a b c : Cd} {m n : Nat} (h : Adv a b m) (h' : Adv b c n) : Adv a c (m + n) :=
  ⟨h'.w.trans h.w, h'.h.trans h.h, h'.band.trans h.band, h'.style.trans h.style, h'.raw.trans h.raw, h'.mag.trans h.mag, h'.ok, by have := h.e1; have := h'.e1; omega, Nat.le_trans h.e2 h'.e2, by have := h.r1; have := h'.r1; omega, Int.le_trans h.r2 h'.r2, fun b => h'.by' (h.by' b)⟩
theorem Adv.more {a b : Cd} {m n : Nat} (h : Adv a b m) (hmn : m ≤ n) : Adv a b n :=
  ⟨h.w, h.h, h.band, h.style, h.raw, h.mag, h.ok, by have := h.e1; omega, h.e2, by have := h.r1; omega, h.r2, h.by'⟩
theorem bitF_adv {c : Cd} (hc : CdOk c) {k : Nat} (hk : k < 19) (b : Int) : Adv c (bitF c k b) 16 := by
  unfold bitF
  split
  · obtain ⟨h1, h2, h3, h4⟩ := rawBit_ok (bit := b) hc.rw
    exact ⟨rfl, rfl, rfl, rfl, rfl, rfl, ⟨hc.w1, hc.w2, hc.h1, hc.h2, hc.mag, hc.neg, hc.sig, hc.seen, hc.again, hc.cx, hc.e, h1⟩, by dsimp only; omega, Nat.le_refl _, by dsimp only; omega, h2, fun b => ⟨b.1, rawBit_by b.2⟩⟩
  · obtain ⟨h1, h2, h3, h4⟩ := encQ_ok (bit := b) hc.e hc.cx hk
    exact ⟨rfl, rfl, rfl, rfl, rfl, rfl, ⟨hc.w1, hc.w2, hc.h1, hc.h2, hc.mag, hc.neg, hc.sig, hc.seen, hc.again, h2, h1, hc.rw⟩, h4, h3, by dsimp only; omega, Int.le_refl _, fun b => ⟨encQ_by b.1, b.2⟩⟩
theorem bitF_same (c : Cd) (k : Nat) (b : Int) : (bitF c k b).neg = c.neg ∧ (bitF c k b).sig = c.sig ∧ (bitF c k b).seen = c.seen ∧ (bitF c k b).again = c.again := by
  unfold bitF; split <;> exact ⟨rfl, rfl, rfl, rfl⟩
theorem sK_lt (c : Cd) (x y : Nat) : sK c x y < 19 := by
  have h1 := clip_ok (wI (saysF c x y (-1) 0 + saysF c x y 1 0))
  have h2 := clip_ok (wI (saysF c x y 0 (-1) + saysF c x y 0 1))
  have := signK_ok (h := sH c x y) (v := sV c x y) h1.1 h1.2 h2.1 h2.2
  unfold sK; omega
theorem signF_adv {c : Cd} (hc : CdOk c) (x y : Nat) : Adv c (signF c x y) 16 := by
  have h := bitF_adv hc (sK_lt c x y) (sN c x y)
  have hs := bitF_same c (sK c x y) (sN c x y)
  exact ⟨h.w, h.h, h.band, h.style, h.raw, h.mag, ⟨h.ok.w1, h.ok.w2, h.ok.h1, h.ok.h2, h.ok.mag, by show (c.neg.set _ _).length = _; rw [List.length_set, hc.neg, ← h.w, ← h.h]; rfl, by show (c.sig.set _ _).length = _; rw [List.length_set, hc.sig, ← h.w, ← h.h]; rfl, h.ok.seen, h.ok.again, h.ok.cx, h.ok.e, h.ok.rw⟩, h.e1, h.e2, h.r1, h.r2, h.by'⟩
def xOf (c : Cd) (n : Nat) : Nat := scanX c.w c.h n
def yOf (c : Cd) (n : Nat) : Nat := scanY c.w c.h n
def iOf (c : Cd) (n : Nat) : Nat := yOf c n * c.w + xOf c n
def sayBit (c : Cd) (x y plane k : Nat) : Cd :=
  if magB c (y * c.w + x) plane = 1 then signF (bitF c k (magB c (y * c.w + x) plane)) x y else bitF c k (magB c (y * c.w + x) plane)
theorem sayBit_adv {c : Cd} (hc : CdOk c) {k : Nat} (hk : k < 19) (x y plane : Nat) : Adv c (sayBit c x y plane k) 32 := by
  have h := bitF_adv hc hk (magB c (y * c.w + x) plane)
  unfold sayBit
  split
  · exact h.trans (signF_adv h.ok x y)
  · exact h.more (by omega)
def sigStep (plane : Nat) (c : Cd) (n : Nat) : Cd :=
  if c.sig.getD (iOf c n) false = true ∨ ctxZ c (xOf c n) (yOf c n) = 0 then c
  else { sayBit c (xOf c n) (yOf c n) plane (ctxZ c (xOf c n) (yOf c n)).toNat with seen := (sayBit c (xOf c n) (yOf c n) plane (ctxZ c (xOf c n) (yOf c n)).toNat).seen.set (iOf c n) true }
theorem seen_adv {c c' : Cd} {n : Nat} (h : Adv c c' n) {l : List Bool} (hl : l.length = c'.w * c'.h) : Adv c { c' with seen := l } n :=
  ⟨h.w, h.h, h.band, h.style, h.raw, h.mag, ⟨h.ok.w1, h.ok.w2, h.ok.h1, h.ok.h2, h.ok.mag, h.ok.neg, h.ok.sig, hl, h.ok.again, h.ok.cx, h.ok.e, h.ok.rw⟩, h.e1, h.e2, h.r1, h.r2, h.by'⟩
theorem again_adv {c c' : Cd} {n : Nat} (h : Adv c c' n) {l : List Bool} (hl : l.length = c'.w * c'.h) : Adv c { c' with again := l } n :=
  ⟨h.w, h.h, h.band, h.style, h.raw, h.mag, ⟨h.ok.w1, h.ok.w2, h.ok.h1, h.ok.h2, h.ok.mag, h.ok.neg, h.ok.sig, h.ok.seen, hl, h.ok.cx, h.ok.e, h.ok.rw⟩, h.e1, h.e2, h.r1, h.r2, h.by'⟩
theorem ctxZ_lt (c : Cd) (x y : Nat) : (ctxZ c x y).toNat < 19 := by have := ctxZ_ok c x y; omega
theorem sigStep_adv {c : Cd} (hc : CdOk c) (plane n : Nat) : Adv c (sigStep plane c n) 32 := by
  unfold sigStep
  split
  · exact (Adv.refl hc).more (by omega)
  · have h := sayBit_adv hc (ctxZ_lt c (xOf c n) (yOf c n)) (xOf c n) (yOf c n) plane
    exact seen_adv h (by rw [List.length_set]; exact h.ok.seen)
theorem fold_adv {α : Type} {f : Cd → α → Cd} {m : Nat} (hf : ∀ c x, CdOk c → Adv c (f c x) m) : ∀ (l : List α) {c : Cd}, CdOk c → Adv c (l.foldl f c) (m * l.length) := by
  intro l
  induction l with
  | nil => intro c hc; exact Adv.refl hc
  | cons x l ih =>
    intro c hc
    have h1 := hf c x hc
    have h2 := ih h1.ok
    rw [List.length_cons, Nat.mul_succ, Nat.add_comm]
    exact h1.trans h2
def sigPass (plane : Nat) (c : Cd) : Cd := (List.range (c.w * c.h)).foldl (sigStep plane) c
def refStep (plane : Nat) (c : Cd) (n : Nat) : Cd :=
  if c.sig.getD (iOf c n) false = false ∨ c.seen.getD (iOf c n) false = true then c
  else { bitF c (refineK (!c.again.getD (iOf c n) false) (aH c (xOf c n) (yOf c n) + aV c (xOf c n) (yOf c n) + aD c (xOf c n) (yOf c n))).toNat (magB c (iOf c n) plane) with again := c.again.set (iOf c n) true }
theorem refineK_ok (b : Bool) (n : Int) : 14 ≤ refineK b n ∧ refineK b n ≤ 16 := by
  unfold refineK; split; omega; split <;> omega
theorem refStep_adv {c : Cd} (hc : CdOk c) (plane n : Nat) : Adv c (refStep plane c n) 32 := by
  unfold refStep
  split
  · exact (Adv.refl hc).more (by omega)
  · have hk := refineK_ok (!c.again.getD (iOf c n) false) (aH c (xOf c n) (yOf c n) + aV c (xOf c n) (yOf c n) + aD c (xOf c n) (yOf c n))
    have h := bitF_adv hc (k := (refineK (!c.again.getD (iOf c n) false) (aH c (xOf c n) (yOf c n) + aV c (xOf c n) (yOf c n) + aD c (xOf c n) (yOf c n))).toNat) (by omega) (magB c (iOf c n) plane)
    exact (again_adv h (by rw [List.length_set, hc.again, h.w, h.h])).more (by omega)
def refPass (plane : Nat) (c : Cd) : Cd := (List.range (c.w * c.h)).foldl (refStep plane) c
def blankAt (c : Cd) (x y j : Nat) : Bool := !(c.sig.getD ((y + j) * c.w + x) false) && !(c.seen.getD ((y + j) * c.w + x) false) && decide (ctxZ c x (y + j) = 0)
def blankF (c : Cd) (x y : Nat) : Bool := decide (4 ≤ (c.h : Int) - y) && (List.range 4).all (blankAt c x y)
def firstF (c : Cd) (x y plane : Nat) : Nat → Nat → Nat
  | 0, f => f
  | k + 1, f => firstF c x y plane k (if magB c ((y + k) * c.w + x) plane = 1 then k else f)
def first4 (c : Cd) (x y plane : Nat) : Nat := firstF c x y plane 4 4
theorem firstF_le (c : Cd) (x y plane : Nat) : ∀ (k f : Nat), k ≤ 4 → f ≤ 4 → firstF c x y plane k f ≤ 4 := by
  intro k
  induction k with
  | zero => intro f _ h; exact h
  | succ k ih => intro f hk h; simp only [firstF]; exact ih _ (by omega) (by split <;> omega)
def colStep (x y plane : Nat) (c : Cd) (j : Nat) : Cd :=
  if c.sig.getD ((y + j) * c.w + x) false = true ∨ c.seen.getD ((y + j) * c.w + x) false = true then c else sayBit c x (y + j) plane (ctxZ c x (y + j)).toNat
theorem colStep_adv {c : Cd} (hc : CdOk c) (x y plane j : Nat) : Adv c (colStep x y plane c j) 32 := by
  unfold colStep
  split
  · exact (Adv.refl hc).more (by omega)
  · exact sayBit_adv hc (ctxZ_lt c x (y + j)) x (y + j) plane
def colF (x y plane : Nat) (c : Cd) (j : Nat) : Cd := ((List.range' j (min 4 (c.h - y) - j))).foldl (colStep x y plane) c
def runF (c : Cd) (x y plane : Nat) : Cd :=
  signF (bitF (bitF (bitF c 17 (oneB (decide (first4 c x y plane < 4)))) 18 (andI ((first4 c x y plane : Int) / 2) 1)) 18 (andI (first4 c x y plane : Int) 1)) x (y + first4 c x y plane)
def column (plane : Nat) (c : Cd) (x y : Nat) : Cd :=
  if blankF c x y = true then
    if first4 c x y plane < 4 then colF x y plane (runF c x y plane) (first4 c x y plane + 1) else bitF c 17 0
  else colF x y plane c 0
theorem colF_adv {c : Cd} (hc : CdOk c) (x y plane j : Nat) : Adv c (colF x y plane c j) 128 := by
  refine (fold_adv (fun c j hc => colStep_adv hc x y plane j) _ hc).more ?_
  simp; omega
theorem runF_adv {c : Cd} (hc : CdOk c) (x y plane : Nat) : Adv c (runF c x y plane) 64 := by
  unfold runF
  have h1 := bitF_adv hc (k := 17) (by omega) (oneB (decide (first4 c x y plane < 4)))
  have h2 := bitF_adv h1.ok (k := 18) (by omega) (andI ((first4 c x y plane : Int) / 2) 1)
  have h3 := bitF_adv h2.ok (k := 18) (by omega) (andI (first4 c x y plane : Int) 1)
  exact ((h1.trans h2).trans h3).trans (signF_adv h3.ok _ _)
theorem column_adv {c : Cd} (hc : CdOk c) (plane x y : Nat) : Adv c (column plane c x y) 192 := by
  unfold column
  split
  · split
    · have h := runF_adv hc x y plane
      exact h.trans (colF_adv h.ok x y plane _)
    · exact (bitF_adv hc (by omega) 0).more (by omega)
  · exact (colF_adv hc x y plane 0).more (by omega)
def rowF (plane : Nat) (c : Cd) (s : Nat) : Cd := (List.range c.w).foldl (fun c x => column plane c x (4 * s)) c
theorem rowF_adv {c : Cd} (hc : CdOk c) (plane s : Nat) : Adv c (rowF plane c s) 12288 := by
  refine (fold_adv (fun c x hc => column_adv hc plane x (4 * s)) _ hc).more ?_
  have := hc.w2
  simp; omega
def stripes (c : Cd) : Nat := (c.h + 3) / 4
def cleanA (plane : Nat) (c : Cd) : Cd := (List.range (stripes c)).foldl (rowF plane) c
def unseen (c : Cd) : Cd := { c with seen := List.replicate c.seen.length false }
def symF (c : Cd) (k : Nat) : Cd := bitF c 18 (1 - (k : Int) % 2)
def cleanPass (plane : Nat) (c : Cd) : Cd :=
  let c1 := unseen (cleanA plane c)
  if andI c.style 32 ≠ 0 then (List.range 4).foldl symF c1 else c1
theorem cleanA_adv {c : Cd} (hc : CdOk c) (plane : Nat) : Adv c (cleanA plane c) 245760 := by
  refine (fold_adv (fun c s hc => rowF_adv hc plane s) _ hc).more ?_
  have := hc.h2
  simp [stripes]; omega
theorem unseen_adv {c : Cd} (hc : CdOk c) : Adv c (unseen c) 0 := seen_adv (Adv.refl hc) (by simp [hc.seen])
theorem cleanPass_adv {c : Cd} (hc : CdOk c) (plane : Nat) : Adv c (cleanPass plane c) 300000 := by
  have h1 := cleanA_adv hc plane
  have h2 := h1.trans (unseen_adv h1.ok)
  unfold cleanPass
  dsimp only
  split
  · exact (h2.trans (fold_adv (fun c k hc => bitF_adv hc (by omega) _) (List.range 4) h2.ok)).more (by simp)
  · exact h2.more (by omega)
theorem sigPass_adv {c : Cd} (hc : CdOk c) (plane : Nat) : Adv c (sigPass plane c) 300000 := by
  refine (fold_adv (fun c n hc => sigStep_adv hc plane n) _ hc).more ?_
  have h1 := Nat.mul_le_mul hc.w2 hc.h2
  simp; omega
theorem refPass_adv {c : Cd} (hc : CdOk c) (plane : Nat) : Adv c (refPass plane c) 300000 := by
  refine (fold_adv (fun c n hc => refStep_adv hc plane n) _ hc).more ?_
  have h1 := Nat.mul_le_mul hc.w2 hc.h2
  simp; omega
def resetF (c : Cd) : Cd := if andI c.style 2 ≠ 0 then { c with cx := freshCx } else c
theorem resetF_adv {c : Cd} (hc : CdOk c) : Adv c (resetF c) 0 := by
  unfold resetF
  split
  · exact ⟨rfl, rfl, rfl, rfl, rfl, rfl, ⟨hc.w1, hc.w2, hc.h1, hc.h2, hc.mag, hc.neg, hc.sig, hc.seen, hc.again, freshCx_ok, hc.e, hc.rw⟩, Nat.le_refl _, Nat.le_refl _, Nat.le_refl _, Int.le_refl _, id⟩
  · exact Adv.refl hc
def passF (c : Cd) (k planes : Nat) : Cd :=
  let plane := planes - 1 - (k + 2) / 3
  if kindF (k : Int) = 0 then sigPass plane (resetF c) else if kindF (k : Int) = 1 then refPass plane (resetF c) else cleanPass plane (resetF c)
theorem passF_adv {c : Cd} (hc : CdOk c) (k planes : Nat) : Adv c (passF c k planes) 300000 := by
  have h := resetF_adv hc
  unfold passF
  dsimp only
  split
  · exact (h.trans (sigPass_adv h.ok _)).more (by omega)
  · split
    · exact (h.trans (refPass_adv h.ok _)).more (by omega)
    · exact (h.trans (cleanPass_adv h.ok _)).more (by omega)
end Go.Eng
/- Plain: the document's block, coded. -/
set_option linter.unusedVariables false
set_option linter.unusedSimpArgs false
namespace Go.Eng
open Go
def magsF (v : List Int) : List Int := v.map fun x => max x (0 - x)
def negsF (v : List Int) : List Int := v.map fun x => oneB (decide (x < 0))
def bumpF : Nat → Int → Nat → Nat
  | 0, _, p => p
  | f + 1, x, p => if 0 < x / 2 ^ p then bumpF f x (p + 1) else p
def planesF (v : List Int) : Nat := (magsF v).foldl (fun p x => bumpF (31 - p) x p) 0
theorem bump_le {x : Int} {q : Nat} (hx : x < 2 ^ q) : ∀ (f p : Nat), p ≤ q → bumpF f x p ≤ q := by
  intro f
  induction f with
  | zero => intro p h; exact h
  | succ f ih =>
    intro p h
    simp only [bumpF]
    split
    · rename_i h0
      refine ih (p + 1) ?_
      by_cases hpq : p = q
      · subst hpq
        by_cases h1 : 0 ≤ x
        · rw [Int.ediv_eq_zero_of_lt h1 hx] at h0; omega
        · have := Int.ediv_neg_of_neg_of_pos (a := x) (b := 2 ^ p) (by omega) (Int.pow_pos (by omega)); omega
      · omega
    · exact h
theorem planes_le {q : Nat} : ∀ (l : List Int) (p : Nat), (∀ x ∈ l, x < 2 ^ q) → p ≤ q → l.foldl (fun p x => bumpF (31 - p) x p) p ≤ q := by
  intro l
  induction l with
  | nil => intro p _ h; exact h
  | cons x l ih => intro p h hp; exact ih _ (fun y hy => h y (List.mem_cons_of_mem _ hy)) (bump_le (h x (List.mem_cons_self ..)) _ _ hp)
structure Es8 where
  c : Cd
  ps : List (Int × Bool)
  bys : List Nat
  first : Nat
abbrev newE : MqE := ⟨32768, 0, 12, [0]⟩
abbrev newW : RawW := ⟨[], 0, 8, 8⟩
def isRawF (style k : Int) : Bool := decide (andI style 1 ≠ 0) && decide (10 ≤ k) && decide (kindF k ≠ 2)
def begK (style : Int) (k : Nat) (s : Es8) : Cd := if k = s.first then { s.c with raw := isRawF style k, e := newE, rw := newW } else s.c
def outC (c : Cd) : Int := if c.raw = true then rawOut c.rw else (c.e.b.length : Int) - 1 + 5
def flC (c : Cd) : List Nat := if c.raw = true then rawFlush c.rw else flushB c.e
def cutF (x : List Nat) (out : Int) : Int :=
  if 0 < min out (x.length : Int) ∧ ((x.getD (min out (x.length : Int) - 1).toNat 0 : Nat) : Int) = 255 then min out (x.length : Int) - 1 else min out (x.length : Int)
def fixN (x : List Nat) (at' : Nat) : Nat → Nat → List (Int × Bool) → List (Int × Bool)
  | _, 0, ps => ps
  | j, n + 1, ps => fixN x at' (j + 1) n (ps.set j ((at' : Int) + cutF x (ps.getD j (0, false)).1, (ps.getD j (0, false)).2))
def lastE (style : Int) (n k : Nat) : Bool := endsF style k || decide ((k : Int) = (n : Int) - 1)
def stepE (style : Int) (planes n : Nat) (s : Es8) (k : Nat) : Es8 :=
  let c := passF (begK style k s) k planes
  let ps := s.ps ++ [(outC c, lastE style n k)]
  if lastE style n k = false then ⟨c, ps, s.bys, s.first⟩ else
    let q := fixN (flC c) s.bys.length s.first (k + 1 - s.first) ps
    ⟨c, q.set k (((s.bys ++ flC c).length : Int), (q.getD k (0, false)).2), s.bys ++ flC c, k + 1⟩
def cd0 (w h : Nat) (band style : Int) (v : List Int) : Cd :=
  ⟨w, h, band, style, magsF v, negsF v, List.replicate (w * h) false, List.replicate (w * h) false, List.replicate (w * h) false, freshCx, false, newE, newW⟩
def cntN (p : Nat) : Nat := 3 * p - 2
def atE (w h : Nat) (band style : Int) (v : List Int) (k : Nat) : Es8 := (List.range k).foldl (stepE style (planesF v) (cntN (planesF v))) ⟨cd0 w h band style v, [], [], 0⟩
def codeF (w h : Nat) (band style : Int) (v : List Int) : Bk := ⟨(planesF v : Nat), (atE w h band style v (cntN (planesF v))).ps, (atE w h band style v (cntN (planesF v))).bys⟩
theorem newE_ok : EqOk newE := ⟨by decide, by decide, by decide⟩
theorem newW_ok : RawOk newW := ⟨by decide, by decide, by decide⟩
theorem cd0_ok {w h : Nat} {band style : Int} {v : List Int} (hw1 : 1 ≤ w) (hw : w ≤ 64) (hh1 : 1 ≤ h) (hh : h ≤ 64) (hv : v.length = w * h) : CdOk (cd0 w h band style v) :=
  ⟨hw1, hw, hh1, hh, by simp [cd0, magsF, hv], by simp [cd0, negsF, hv], by simp [cd0], by simp [cd0], by simp [cd0], freshCx_ok, newE_ok, newW_ok⟩
theorem fixN_length (x : List Nat) (at' : Nat) : ∀ (n j : Nat) (ps : List (Int × Bool)), (fixN x at' j n ps).length = ps.length := by
  intro n
  induction n with
  | zero => intro j ps; rfl
  | succ n ih => intro j ps; simp only [fixN]; rw [ih, List.length_set]
theorem fixN_get (x : List Nat) (at' : Nat) : ∀ (n j : Nat) (ps : List (Int × Bool)) (i : Nat), j + n ≤ ps.length →
    (fixN x at' j n ps).getD i (0, false) = if j ≤ i ∧ i < j + n then ((at' : Int) + cutF x (ps.getD i (0, false)).1, (ps.getD i (0, false)).2) else ps.getD i (0, false) := by
  intro n
  induction n with
  | zero => intro j ps i _; simp only [fixN]; rw [if_neg (by omega)]
  | succ n ih =>
    intro j ps i h
    simp only [fixN]
    rw [ih _ _ _ (by rw [List.length_set]; omega)]
    by_cases hi : j = i
    · subst hi
      rw [if_neg (by omega), if_pos (by omega), List.getD_eq_getElem?_getD, List.getElem?_set_self (by omega)]
      rfl
    · have e : (ps.set j ((at' : Int) + cutF x (ps.getD j (0, false)).1, (ps.getD j (0, false)).2)).getD i (0, false) = ps.getD i (0, false) := by
        rw [List.getD_eq_getElem?_getD, List.getElem?_set_ne hi, ← List.getD_eq_getElem?_getD]
      rw [e]
      by_cases h1 : j + 1 ≤ i ∧ i < j + 1 + n
      · rw [if_pos h1, if_pos (by omega)]
      · rw [if_neg h1, if_neg (by omega)]
theorem cutF_ok {x : List Nat} {o : Int} (h : 0 ≤ o) : 0 ≤ cutF x o ∧ cutF x o ≤ x.length := by
  unfold cutF; split <;> omega
theorem cutF_mono {x : List Nat} {o o' : Int} (h : 0 ≤ o) (h' : o ≤ o') : cutF x o ≤ cutF x o' := by
  by_cases hm : min o (x.length : Int) = min o' (x.length : Int)
  · unfold cutF; rw [hm]; exact Int.le_refl _
  · unfold cutF; split <;> split <;> omega
structure EInv (style : Int) (planes n w h : Nat) (c0 : Cd) (k : Nat) (s : Es8) : Prop where
  ok : CdOk s.c
  cw : s.c.w = w
  ch : s.c.h = h
  cb : s.c.band = c0.band
  cs : s.c.style = c0.style
  cm : s.c.mag = c0.mag
  by' : ByOk s.c
  len : s.ps.length = k
  first : s.first ≤ k
  done : k = n → s.first = n
  e1 : s.first < k → s.c.e.b.length ≤ 1 + 300000 * (k - s.first)
  r1 : s.first < k → s.c.rw.b.length ≤ 300000 * (k - s.first)
  raw : s.first < k → s.c.raw = isRawF style s.first
  out : ∀ i, s.first ≤ i → i < k → 0 ≤ (s.ps.getD i (0, false)).1 ∧ (s.ps.getD i (0, false)).1 ≤ outC s.c
  up : ∀ i j, s.first ≤ i → i ≤ j → j < k → (s.ps.getD i (0, false)).1 ≤ (s.ps.getD j (0, false)).1
  size : s.bys.length ≤ 300010 * s.first
  byte : BysOk s.bys
  fin0 : ∀ i, i < s.first → 0 ≤ (s.ps.getD i (0, false)).1 ∧ (s.ps.getD i (0, false)).1 ≤ s.bys.length
  fin : ∀ i j, i ≤ j → j < s.first → (s.ps.getD i (0, false)).1 ≤ (s.ps.getD j (0, false)).1
theorem outC_pos {c : Cd} (h : CdOk c) : 0 ≤ outC c := by
  have h1 := h.e.2.2
  unfold outC; split
  · unfold rawOut; split <;> omega
  · omega
theorem outC_mono {c c' : Cd} {n : Nat} (h : Adv c c' n) : outC c ≤ outC c' := by
  have h1 := h.r2; have h2 := h.e2
  unfold outC; rw [h.raw]; split
  · exact h1
  · omega
theorem flC_len (c : Cd) : (flC c).length ≤ max (c.e.b.length + 2) (c.rw.b.length + 1) := by
  have h1 := flushB_len c.e; have h2 := rawFlush_len c.rw
  unfold flC; split <;> omega
theorem flC_by {c : Cd} (h : ByOk c) : BysOk (flC c) := by
  unfold flC; split
  · exact rawFlush_by h.2
  · exact flushB_by h.1
theorem getD_app {l : List (Int × Bool)} {y : Int × Bool} {i : Nat} (h : i ≤ l.length) : (l ++ [y]).getD i (0, false) = if i = l.length then y else l.getD i (0, false) := by
  rw [List.getD_eq_getElem?_getD, List.getD_eq_getElem?_getD]
  split
  · rename_i h1; subst h1; simp
  · rw [List.getElem?_append_left (by omega)]
theorem getD_put {l : List (Int × Bool)} {y : Int × Bool} {i k : Nat} (h : k < l.length) : (l.set k y).getD i (0, false) = if i = k then y else l.getD i (0, false) := by
  rw [List.getD_eq_getElem?_getD, List.getD_eq_getElem?_getD]
  split
  · rename_i h1; subst h1; rw [List.getElem?_set_self h]; rfl
  · rename_i h1; rw [List.getElem?_set_ne (by omega)]
theorem begK_ok {style : Int} {planes n w h : Nat} {c0 : Cd} {k : Nat} {s : Es8} (H : EInv style planes n w h c0 k s) :
    CdOk (begK style k s) ∧ ByOk (begK style k s) ∧ (begK style k s).e.b.length ≤ 1 + 300000 * (k - s.first) ∧ (begK style k s).rw.b.length ≤ 300000 * (k - s.first) ∧ (begK style k s).raw = isRawF style s.first ∧ (k ≠ s.first → begK style k s = s.c) := by
  have hf := H.first
  unfold begK
  split
  · rename_i hk
    refine ⟨⟨H.ok.w1, H.ok.w2, H.ok.h1, H.ok.h2, H.ok.mag, H.ok.neg, H.ok.sig, H.ok.seen, H.ok.again, H.ok.cx, newE_ok, newW_ok⟩, ⟨?_, ?_⟩, by simp, by simp, by rw [hk], fun h => absurd hk h⟩
    · intro x hx; simp at hx; subst hx; decide
    · intro x hx; simp at hx
  · rename_i hk
    exact ⟨H.ok, H.by', H.e1 (by omega), H.r1 (by omega), H.raw (by omega), fun _ => rfl⟩
theorem begK_same {style : Int} {k : Nat} {s : Es8} : (begK style k s).w = s.c.w ∧ (begK style k s).h = s.c.h ∧ (begK style k s).band = s.c.band ∧ (begK style k s).style = s.c.style ∧ (begK style k s).mag = s.c.mag := by
  unfold begK; split <;> exact ⟨rfl, rfl, rfl, rfl, rfl⟩
theorem EInv.step {style : Int} {planes n w h : Nat} {c0 : Cd} {k : Nat} {s : Es8} (H : EInv style planes n w h c0 k s) (hk : k < n) (hn : n ≤ 100) : EInv style planes n w h c0 (k + 1) (stepE style planes n s k) := by
  obtain ⟨b1, b2, b3, b4, b5, b6⟩ := begK_ok H
  obtain ⟨s1, s2, s3, s4, s5⟩ := begK_same (style := style) (k := k) (s := s)
  have ha := passF_adv b1 k planes
  have hf := H.first
  have hlen := H.len
  have ho := outC_pos ha.ok
  have hup : ∀ i, s.first ≤ i → i < k → 0 ≤ (s.ps.getD i (0, false)).1 ∧ (s.ps.getD i (0, false)).1 ≤ outC (passF (begK style k s) k planes) := by
    intro i h1 h2
    have h3 := H.out i h1 h2
    have h4 := outC_mono ha
    rw [b6 (by omega)] at h4 ⊢
    exact ⟨h3.1, Int.le_trans h3.2 h4⟩
  have hcd : (1 : Nat) ≤ k + 1 - s.first := by omega
  have he := ha.e1; have hr := ha.r1
  unfold stepE
  dsimp only
  generalize passF (begK style k s) k planes = c2 at *
  have hget : ∀ i, i ≤ k → (s.ps ++ [(outC c2, lastE style n k)]).getD i (0, false) = if i = k then (outC c2, lastE style n k) else s.ps.getD i (0, false) := by
    intro i hi
    rw [getD_app (by omega), hlen]
  have hl1 : (s.ps ++ [(outC c2, lastE style n k)]).length = k + 1 := by rw [List.length_append, hlen]; rfl
  by_cases hE : lastE style n k = false
  · rw [if_pos hE]
    refine ⟨ha.ok, by rw [ha.w, s1, H.cw], by rw [ha.h, s2, H.ch], by rw [ha.band, s3, H.cb], by rw [ha.style, s4, H.cs], by rw [ha.mag, s5, H.cm], ha.by' b2, hl1, by dsimp only; omega, ?_, ?_, ?_, ?_, ?_, ?_, H.size, H.byte, ?_, ?_⟩
    · intro h1
      unfold lastE at hE
      rw [Bool.or_eq_false_iff] at hE
      have := of_decide_eq_false hE.2
      omega
    · intro _; dsimp only; omega
    · intro _; dsimp only; omega
    · intro _; dsimp only; rw [ha.raw, b5]
    · intro i h1 h2
      dsimp only at h1 h2 ⊢
      rw [hget i (by omega)]
      split
      · exact ⟨ho, Int.le_refl _⟩
      · exact hup i h1 (by omega)
    · intro i j h1 h2 h3
      dsimp only at h1 h2 h3 ⊢
      rw [hget i (by omega), hget j (by omega)]
      split
      · rw [if_pos (by omega)]; exact Int.le_refl _
      · split
        · exact (hup i h1 (by omega)).2
        · exact H.up i j h1 h2 (by omega)
    · intro i h1
      dsimp only at h1 ⊢
      rw [hget i (by omega), if_neg (by omega)]
      exact H.fin0 i h1
    · intro i j h1 h2
      dsimp only at h1 h2 ⊢
      rw [hget i (by omega), hget j (by omega), if_neg (by omega), if_neg (by omega)]
      exact H.fin i j h1 h2
  · rw [if_neg hE]
    have hxl := flC_len c2
    have hq : ∀ i, i ≤ k → ((fixN (flC c2) s.bys.length s.first (k + 1 - s.first) (s.ps ++ [(outC c2, lastE style n k)])).set k (((s.bys ++ flC c2).length : Int), ((fixN (flC c2) s.bys.length s.first (k + 1 - s.first) (s.ps ++ [(outC c2, lastE style n k)])).getD k (0, false)).2)).getD i (0, false)
        = if i = k then (((s.bys ++ flC c2).length : Int), ((fixN (flC c2) s.bys.length s.first (k + 1 - s.first) (s.ps ++ [(outC c2, lastE style n k)])).getD k (0, false)).2) else if s.first ≤ i then ((s.bys.length : Int) + cutF (flC c2) (s.ps.getD i (0, false)).1, (s.ps.getD i (0, false)).2) else s.ps.getD i (0, false) := by
      intro i hi
      rw [getD_put (by rw [fixN_length, hl1]; omega)]
      split
      · rfl
      · rename_i hik
        rw [fixN_get _ _ _ _ _ _ (by rw [hl1]; omega), hget i hi, if_neg hik]
        by_cases h1 : s.first ≤ i
        · rw [if_pos (by omega), if_pos h1]
        · rw [if_neg (by omega), if_neg h1]
    have hv : ∀ i, i < k → s.first ≤ i → (s.bys.length : Int) ≤ (s.bys.length : Int) + cutF (flC c2) (s.ps.getD i (0, false)).1 ∧ (s.bys.length : Int) + cutF (flC c2) (s.ps.getD i (0, false)).1 ≤ (s.bys.length : Int) + (flC c2).length := by
      intro i h1 h2
      have := cutF_ok (x := flC c2) (hup i h2 h1).1
      omega
    have hl2 : ((s.bys ++ flC c2).length : Int) = (s.bys.length : Int) + (flC c2).length := by rw [List.length_append]; omega
    refine ⟨ha.ok, by rw [ha.w, s1, H.cw], by rw [ha.h, s2, H.ch], by rw [ha.band, s3, H.cb], by rw [ha.style, s4, H.cs], by rw [ha.mag, s5, H.cm], ha.by' b2, by rw [List.length_set, fixN_length, hl1], Nat.le_refl _, ?_, ?_, ?_, ?_, ?_, ?_, ?_, H.byte.app (flC_by (ha.by' b2)), ?_, ?_⟩
    · intro h1; exact h1
    · intro h1; exact absurd h1 (Nat.lt_irrefl _)
    · intro h1; exact absurd h1 (Nat.lt_irrefl _)
    · intro h1; exact absurd h1 (Nat.lt_irrefl _)
    · intro i h1 h2; dsimp only at h1; omega
    · intro i j h1 h2 h3; dsimp only at h1; omega
    · have := H.size
      rw [List.length_append]; dsimp only; omega
    · intro i h1
      dsimp only at h1 ⊢
      rw [hq i (by omega), hl2]
      split
      · dsimp only; omega
      · split
        · have := hv i (by omega) (by assumption); dsimp only; omega
        · have := H.fin0 i (by omega); omega
    · intro i j h1 h2
      dsimp only at h2 ⊢
      rw [hq i (by omega), hq j (by omega)]
      by_cases hj : j = k
      · rw [if_pos hj]
        by_cases hi : i = k
        · rw [if_pos hi]; exact Int.le_refl _
        · rw [if_neg hi]
          dsimp only; rw [hl2]
          by_cases h3 : s.first ≤ i
          · rw [if_pos h3]; exact (hv i (by omega) h3).2
          · rw [if_neg h3]; have := H.fin0 i (by omega); omega
      · rw [if_neg hj, if_neg (by omega)]
        by_cases h3 : s.first ≤ i
        · rw [if_pos h3, if_pos (by omega)]
          have h4 := cutF_mono (x := flC c2) (hup i h3 (by omega)).1 (H.up i j h3 h1 (by omega))
          dsimp only; omega
        · rw [if_neg h3]
          by_cases h5 : s.first ≤ j
          · rw [if_pos h5]; have := H.fin0 i (by omega); have := hv j (by omega) h5; dsimp only; omega
          · rw [if_neg h5]; exact H.fin i j h1 (by omega)
theorem atE_succ {w h : Nat} {band style : Int} {v : List Int} {k : Nat} : atE w h band style v (k + 1) = stepE style (planesF v) (cntN (planesF v)) (atE w h band style v k) k := by
  unfold atE; rw [List.range_succ, List.foldl_append]; rfl
theorem atE_inv {w h : Nat} {band style : Int} {v : List Int} (hw1 : 1 ≤ w) (hw : w ≤ 64) (hh1 : 1 ≤ h) (hh : h ≤ 64) (hv : v.length = w * h) (hn : cntN (planesF v) ≤ 100) : ∀ k, k ≤ cntN (planesF v) → EInv style (planesF v) (cntN (planesF v)) w h (cd0 w h band style v) k (atE w h band style v k) := by
  intro k
  induction k with
  | zero =>
    intro _
    refine ⟨cd0_ok hw1 hw hh1 hh hv, rfl, rfl, rfl, rfl, rfl, ⟨?_, ?_⟩, rfl, Nat.le_refl _, fun h => h, fun h => ?_, fun h => ?_, fun h => ?_, ?_, ?_, Nat.zero_le _, ?_, ?_, ?_⟩
    · intro x hx; simp [atE, cd0] at hx; subst hx; decide
    · intro x hx; simp [atE, cd0] at hx
    · exact absurd h (Nat.lt_irrefl _)
    · exact absurd h (Nat.lt_irrefl _)
    · exact absurd h (Nat.lt_irrefl _)
    · intro i _ h; omega
    · intro i j _ _ h; omega
    · intro x hx; simp [atE] at hx
    · intro i h; exact absurd h (Nat.not_lt_zero _)
    · intro i j _ h; exact absurd h (Nat.not_lt_zero _)
  | succ k ih => intro h; rw [atE_succ]; exact (ih (by omega)).step (by omega) hn
theorem codeF_ok {w h : Nat} {band style : Int} {v : List Int} (hw1 : 1 ≤ w) (hw : w ≤ 64) (hh1 : 1 ≤ h) (hh : h ≤ 64) (hv : v.length = w * h) (hn : planesF v ≤ 30) : BkOk (codeF w h band style v) := by
  have hc : cntN (planesF v) ≤ 100 := by unfold cntN; omega
  have H := atE_inv (band := band) (style := style) hw1 hw hh1 hh hv hc _ (Nat.le_refl _)
  have hd := H.done rfl
  have hl : (codeF w h band style v).ps.length = cntN (planesF v) := H.len
  have hg : ∀ i, i < cntN (planesF v) → (endsOf (codeF w h band style v)).getD i 0 = ((codeF w h band style v).ps.getD i (0, false)).1 := by
    intro i hi
    unfold endsOf
    rw [List.getD_eq_getElem?_getD, List.getElem?_map, List.getD_eq_getElem?_getD, List.getElem?_eq_getElem (by omega)]; rfl
  have hs : (codeF w h band style v).bys.length ≤ 300010 * cntN (planesF v) := by have := H.size; rwa [hd] at this
  refine ⟨by omega, Int.natCast_nonneg _, by show ((planesF v : Nat) : Int) ≤ 1000; omega, ?_, ?_, ?_, by omega, H.byte⟩
  · intro x hx
    obtain ⟨i, hi, rfl⟩ := List.getElem_of_mem hx
    rw [endsOf_length, hl] at hi
    have h1 := H.fin0 i (by rw [hd]; exact hi)
    have h2 := hg i hi
    rw [List.getD_eq_getElem?_getD, List.getElem?_eq_getElem (by rw [endsOf_length, hl]; exact hi)] at h2
    have h3 : (endsOf (codeF w h band style v))[i]'(by rw [endsOf_length, hl]; exact hi) = ((codeF w h band style v).ps.getD i (0, false)).1 := h2
    rw [h3]
    have h4 : (atE w h band style v (cntN (planesF v))).bys.length ≤ 300010 * cntN (planesF v) := hs
    exact ⟨h1.1, by have := h1.2; show ((atE w h band style v (cntN (planesF v))).ps.getD i (0, false)).1 ≤ _; omega⟩
  · intro i j h1 h2
    rw [hl] at h2
    rw [hg i (by omega), hg j h2]
    exact H.fin i j h1 (by rw [hd]; exact h2)
  · intro i h1
    rw [hl] at h1
    rw [hg i h1]
    exact (H.fin0 i (by rw [hd]; exact h1)).2
end Go.Eng
/- Plain: values of raw numbers. -/
set_option linter.unusedVariables false
set_option linter.unusedSimpArgs false
namespace Go.Eng
open Go
theorem tdiv_eq {x c : Int} (hc : 0 < c) : x.tdiv c = if 0 ≤ x then x / c else -((-x) / c) := by
  split
  · rename_i h; exact Int.tdiv_eq_ediv_of_nonneg h
  · rename_i h
    have h1 : x = -(-x) := by omega
    rw [h1, Int.neg_tdiv, Int.tdiv_eq_ediv_of_nonneg (by omega), Int.neg_neg]
def sizeOfV (pl : Nat) (x : Int) : Nat := ((x.tdiv 7) % ((pl : Int) + 1)).toNat
def magOfV (pl : Nat) (x : Int) (i : Nat) : Int := (x.tdiv 64 + i) % 2 ^ sizeOfV pl x
def sayOfV (x : Int) (i : Nat) (n : Nat) : Int := wI (x + ((i / n : Nat) : Int)) % 5
def valOf (pl : Nat) (ns : List Int) (i : Nat) : Int :=
  if sayOfV (ns.getD (i % ns.length) 0) i ns.length = 0 ∨ sayOfV (ns.getD (i % ns.length) 0) i ns.length = 1 then magOfV pl (ns.getD (i % ns.length) 0) i
  else if sayOfV (ns.getD (i % ns.length) 0) i ns.length = 2 ∨ sayOfV (ns.getD (i % ns.length) 0) i ns.length = 3 then 0 - magOfV pl (ns.getD (i % ns.length) 0) i else 0
def valsAt (pl : Nat) (ns : List Int) (N i : Nat) : List Int := (List.range i).map (valOf pl ns) ++ List.replicate (N - i) 0
def valsF (pl : Nat) (ns : List Int) (N : Nat) : List Int := if ns.length = 0 then List.replicate N 0 else (List.range N).map (valOf pl ns)
theorem sizeOfV_le (pl : Nat) (x : Int) : sizeOfV pl x ≤ pl ∧ ((sizeOfV pl x : Nat) : Int) = (x.tdiv 7) % ((pl : Int) + 1) := by
  have h1 := Int.emod_nonneg (x.tdiv 7) (show (pl : Int) + 1 ≠ 0 by omega)
  have h2 := Int.emod_lt_of_pos (x.tdiv 7) (show 0 < (pl : Int) + 1 by omega)
  unfold sizeOfV; omega
theorem magOfV_ok (pl : Nat) (x : Int) (i : Nat) : 0 ≤ magOfV pl x i ∧ magOfV pl x i < 2 ^ pl := by
  have hp : (0 : Int) < 2 ^ sizeOfV pl x := Int.pow_pos (by omega)
  have h1 := Int.emod_nonneg (x.tdiv 64 + i) (Int.ne_of_gt hp)
  have h2 := Int.emod_lt_of_pos (x.tdiv 64 + i) hp
  have h3 : (2 : Int) ^ sizeOfV pl x ≤ 2 ^ pl := by
    have := Nat.pow_le_pow_right (show 0 < 2 by omega) (sizeOfV_le pl x).1
    have h4 : ((2 ^ sizeOfV pl x : Nat) : Int) ≤ ((2 ^ pl : Nat) : Int) := Int.ofNat_le.2 this
    simpa using h4
  unfold magOfV
  exact ⟨h1, Int.lt_of_lt_of_le h2 h3⟩
theorem valOf_ok (pl : Nat) (ns : List Int) (i : Nat) : -2 ^ pl < valOf pl ns i ∧ valOf pl ns i < 2 ^ pl := by
  have h := magOfV_ok pl (ns.getD (i % ns.length) 0) i
  have hp : (0 : Int) < 2 ^ pl := Int.pow_pos (by omega)
  unfold valOf
  split
  · omega
  · split <;> omega
theorem valsF_ok {pl : Nat} {ns : List Int} {N : Nat} : ∀ x ∈ valsF pl ns N, -2 ^ pl < x ∧ x < 2 ^ pl := by
  intro x hx
  have hp : (0 : Int) < 2 ^ pl := Int.pow_pos (by omega)
  unfold valsF at hx
  split at hx
  · rw [List.mem_replicate] at hx; rw [hx.2]; omega
  · rw [List.mem_map] at hx
    obtain ⟨i, _, rfl⟩ := hx
    exact valOf_ok pl ns i
theorem valsF_length (pl : Nat) (ns : List Int) (N : Nat) : (valsF pl ns N).length = N := by unfold valsF; split <;> simp
theorem valsAt_length {pl : Nat} {ns : List Int} {N i : Nat} (h : i ≤ N) : (valsAt pl ns N i).length = N := by simp [valsAt]; omega
theorem vals_put {pl : Nat} {ns : List Int} {N i : Nat} (h : i < N) : (valsAt pl ns N i).set i (valOf pl ns i) = valsAt pl ns N (i + 1) := by
  unfold valsAt
  have hl : ((List.range i).map (valOf pl ns)).length = i := by simp
  rw [List.set_append_right _ _ (by omega), hl, Nat.sub_self, show N - i = (N - (i + 1)) + 1 by omega, List.replicate_succ, List.set_cons_zero, List.range_succ, List.map_append]
  simp
theorem vals_zero (pl : Nat) (ns : List Int) (N : Nat) : valsAt pl ns N 0 = List.replicate N 0 := by simp [valsAt]
theorem vals_skip {pl : Nat} {ns : List Int} {N i : Nat} (h : i < N) (h0 : valOf pl ns i = 0) : valsAt pl ns N i = valsAt pl ns N (i + 1) := by
  unfold valsAt
  rw [List.range_succ, List.map_append, show N - i = (N - (i + 1)) + 1 by omega, List.replicate_succ, List.append_assoc]
  simp [h0]
theorem vals_end {pl : Nat} {ns : List Int} {N : Nat} (h : ns.length ≠ 0) : valsAt pl ns N N = valsF pl ns N := by
  unfold valsAt valsF
  rw [if_neg h]; simp
theorem planesF_le {v : List Int} {q : Nat} (h : ∀ x ∈ v, -2 ^ q < x ∧ x < 2 ^ q) : planesF v ≤ q := by
  refine planes_le _ 0 ?_ (Nat.zero_le _)
  intro x hx
  unfold magsF at hx
  rw [List.mem_map] at hx
  obtain ⟨y, hy, rfl⟩ := hx
  have := h y hy
  omega
end Go.Eng
/- Plain: the law's bands. -/
set_option linter.unusedVariables false
set_option linter.unusedSimpArgs false
namespace Go.Eng
open Go
structure Shp where
  w : Int
  h : Int
  spare : Int
  pv : Value
  planes : List Int
  nv : Value
  ns : List Int
instance : Inhabited Shp := ⟨⟨0, 0, 0, .bool false, [], .bool false, []⟩⟩
def sideF (z : Int) : Nat := (z % 4).toNat
theorem sideF_ok (z : Int) : sideF z ≤ 3 ∧ ((sideF z : Nat) : Int) = z % 4 := by unfold sideF; omega
def mostF (s : Shp) : Int := 12 + s.spare % 4
def plF (s : Shp) (k : Nat) : Nat := if s.planes.length = 0 then 0 else (s.planes.getD (k % s.planes.length) 0 % 13).toNat
theorem plF_le (s : Shp) (k : Nat) : plF s k ≤ 12 := by unfold plF; split <;> omega
def numF (s : Shp) : Nat := sideF s.w * sideF s.h
theorem numF_le (s : Shp) : numF s ≤ 9 := Nat.mul_le_mul (sideF_ok s.w).1 (sideF_ok s.h).1
def blkV (s : Shp) (k : Nat) : List Int := valsF (plF s k) s.ns 15
def blkF (style : Int) (i : Nat) (s : Shp) (k : Nat) : Bk := codeF 3 5 (((i % 4 : Nat)) : Int) style (blkV s k)
theorem blkV_length (s : Shp) (k : Nat) : (blkV s k).length = 3 * 5 := valsF_length _ _ _
theorem blkV_ok (s : Shp) (k : Nat) : ∀ x ∈ blkV s k, -1073741824 < x ∧ x < 1073741824 := by
  intro x hx
  have h1 := valsF_ok x hx
  have h2 := Nat.pow_le_pow_right (show 0 < 2 by omega) (plF_le s k)
  have h3 : ((2 ^ plF s k : Nat) : Int) ≤ ((2 ^ 12 : Nat) : Int) := Int.ofNat_le.2 h2
  have h4 : ((2 ^ plF s k : Nat) : Int) = (2 : Int) ^ plF s k := by simp
  have h5 : ((2 ^ 12 : Nat) : Int) = 4096 := by decide
  omega
theorem blkV_planes (s : Shp) (k : Nat) : planesF (blkV s k) ≤ 12 := Nat.le_trans (planesF_le valsF_ok) (plF_le s k)
theorem blkF_ok (style : Int) (i : Nat) (s : Shp) (k : Nat) : BkOk (blkF style i s k) := codeF_ok (by decide) (by decide) (by decide) (by decide) (blkV_length s k) (by have := blkV_planes s k; omega)
def ssAt (style : Int) (i : Nat) (s : Shp) (k : Nat) : List Bs := (List.range k).map (fun j => ⟨blkF style i s j, 0, 3⟩) ++ List.replicate (numF s - k) ⟨noBk, 0, 3⟩
def bdAt (style : Int) (i : Nat) (s : Shp) (k : Nat) : Bd := { newBd (mostF s) (sideF s.w) (sideF s.h) with ss := ssAt style i s k }
def bdF (style : Int) (i : Nat) (s : Shp) : Bd := bdAt style i s (numF s)
def bdsAt (style : Int) (l : List Shp) (n : Nat) : List Bd := (List.range n).map fun i => bdF style i (l.getD i default)
def emsAt (l : List Shp) (n : Nat) : List Bd := (List.range n).map fun i => newBd (mostF (l.getD i default)) (sideF (l.getD i default).w) (sideF (l.getD i default).h)
theorem ssAt_length {style : Int} {i : Nat} {s : Shp} {k : Nat} (h : k ≤ numF s) : (ssAt style i s k).length = numF s := by simp [ssAt]; omega
theorem ssAt_get {style : Int} {i : Nat} {s : Shp} {k : Nat} (h : k < numF s) : (ssAt style i s k)[k]? = some ⟨noBk, 0, 3⟩ := by
  unfold ssAt
  rw [List.getElem?_append_right (by simp)]
  rw [List.getElem?_replicate, if_pos (by rw [List.length_map, List.length_range]; omega)]
theorem ssAt_put {style : Int} {i : Nat} {s : Shp} {k : Nat} (h : k < numF s) : (ssAt style i s k).set k ⟨blkF style i s k, 0, 3⟩ = ssAt style i s (k + 1) := by
  unfold ssAt
  have hl : ((List.range k).map (fun j => (⟨blkF style i s j, 0, 3⟩ : Bs))).length = k := by simp
  rw [List.set_append_right _ _ (by omega), hl, Nat.sub_self, show numF s - k = (numF s - (k + 1)) + 1 by omega, List.replicate_succ, List.set_cons_zero, List.range_succ, List.map_append]
  simp
theorem bdAt_zero (style : Int) (i : Nat) (s : Shp) : bdAt style i s 0 = newBd (mostF s) (sideF s.w) (sideF s.h) := by simp [bdAt, ssAt, newBd, numF]
theorem bdAt_put {style : Int} {i : Nat} {s : Shp} {k : Nat} (h : k < numF s) : { bdAt style i s k with ss := (bdAt style i s k).ss.set k { (⟨noBk, 0, 3⟩ : Bs) with b := blkF style i s k } } = bdAt style i s (k + 1) := by
  show ({ bdAt style i s k with ss := (ssAt style i s k).set k ⟨blkF style i s k, 0, 3⟩ } : Bd) = _
  rw [ssAt_put h]; rfl
theorem mostF_ok (s : Shp) : 12 ≤ mostF s ∧ mostF s ≤ 15 := by unfold mostF; omega
theorem ssF_mem {style : Int} {i : Nat} {s : Shp} {x : Bs} (h : x ∈ ssAt style i s (numF s)) : ∃ j, x = ⟨blkF style i s j, 0, 3⟩ := by
  unfold ssAt at h
  rw [Nat.sub_self, List.replicate_zero, List.append_nil, List.mem_map] at h
  obtain ⟨j, _, rfl⟩ := h
  exact ⟨j, rfl⟩
theorem bdF_ok (style : Int) (i : Nat) (s : Shp) : BdOk (bdF style i s) := by
  have h := newBd_ok (planes := mostF s) (w := sideF s.w) (h := sideF s.h) (by have := sideF_ok s.w; omega) (by have := sideF_ok s.h; omega) (by have := mostF_ok s; omega) (by have := mostF_ok s; omega)
  have hl : (newBd (mostF s) (sideF s.w) (sideF s.h)).ss.length = (ssAt style i s (numF s)).length := by rw [ssAt_length (Nat.le_refl _)]; simp [newBd, numF]
  refine ⟨h.p0, h.p1, h.fine, h.ends, h.leaves.trans hl, h.fl, h.zl, ?_, fun h0 => ?_⟩
  · intro x hx
    obtain ⟨j, rfl⟩ := ssF_mem hx
    exact ⟨blkF_ok style i s j, Nat.zero_le _, by simp⟩
  · have := h.none h0
    show _ = mk0 (mins _ (noughts (ssAt style i s (numF s)).length)) ∧ _ = mk0 (mins _ (noughts (ssAt style i s (numF s)).length))
    rw [← hl]
    exact this
theorem bdF_rd (style : Int) (i : Nat) (s : Shp) : RdOk (bdF style i s) := by
  have h := newBd_rd (planes := mostF s) (w := sideF s.w) (h := sideF s.h) (by have := sideF_ok s.w; omega) (by have := sideF_ok s.h; omega) (by have := mostF_ok s; omega)
  refine ⟨h.first, h.zeros, ?_⟩
  intro x hx
  obtain ⟨j, rfl⟩ := ssF_mem hx
  show ((planesF (blkV s j) : Nat) : Int) ≤ mostF s
  have := blkV_planes s j
  have := mostF_ok s
  omega
theorem bds_lok (style : Int) (l : List Shp) (n count : Nat) : LOk count 0 (bdsAt style l n) := by
  constructor
  · intro bd hb
    unfold bdsAt at hb
    rw [List.mem_map] at hb
    obtain ⟨i, _, rfl⟩ := hb
    exact bdF_ok _ _ _
  · intro bd hb x hx
    unfold bdsAt at hb
    rw [List.mem_map] at hb
    obtain ⟨i, _, rfl⟩ := hb
    obtain ⟨j, rfl⟩ := ssF_mem hx
    show 0 = passesF _ count 0
    simp [passesF]
theorem bds_rd (style : Int) (l : List Shp) (n : Nat) : ∀ bd ∈ bdsAt style l n, RdOk bd := by
  intro bd hb
  unfold bdsAt at hb
  rw [List.mem_map] at hb
  obtain ⟨i, _, rfl⟩ := hb
  exact bdF_rd _ _ _
theorem bds_counts {style : Int} {l : List Shp} {n : Nat} : ∀ x ∈ counts (bdsAt style l n), x ≤ 9 := by
  intro x hx
  unfold counts bdsAt at hx
  rw [List.map_map, List.mem_map] at hx
  obtain ⟨i, _, rfl⟩ := hx
  show (ssAt style i (l.getD i default) (numF (l.getD i default))).length ≤ 9
  rw [ssAt_length (Nat.le_refl _)]
  exact numF_le _
theorem offL_le {m : Nat} : ∀ (ns : List Nat) (k : Nat), (∀ x ∈ ns, x ≤ m) → offL ns k ≤ m * ns.length := by
  intro ns
  induction ns with
  | nil => intro k _; cases k <;> simp [offL]
  | cons a ns ih =>
    intro k h
    cases k with
    | zero => simp [offL]
    | succ k =>
      simp only [offL, List.length_cons, Nat.mul_succ]
      have := ih k fun x hx => h x (List.mem_cons_of_mem _ hx)
      have := h a (List.mem_cons_self ..)
      omega
theorem bds_spots {style : Int} {l : List Shp} {n : Nat} (hn : n ≤ 3) : (spotsL (counts (bdsAt style l n)) 0).length ≤ 100 := by
  rw [spots_length]
  have h := offL_le (counts (bdsAt style l n)) (counts (bdsAt style l n)).length bds_counts
  have hl : (counts (bdsAt style l n)).length = n := by simp [counts, bdsAt]
  rw [hl] at h
  rw [hl]
  omega
end Go.Eng
