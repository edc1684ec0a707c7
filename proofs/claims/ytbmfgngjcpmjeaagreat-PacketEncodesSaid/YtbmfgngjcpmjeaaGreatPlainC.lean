/- Plain models: lengths, layers. -/
import Derived.Test.YtbmfgngjcpmjeaaGreatPlainB
/- Plain: how a head's parts go on; how long they are. -/
set_option linter.unusedVariables false
set_option linter.unusedSimpArgs false
namespace Go.Eng
open Go
theorem needF_next {lb i p : Nat} {q : Int} {sg : List (Nat × Int)} (h : sg[i]? = some (p, q)) :
    needF lb (sg.take (i + 1)) = if 0 < q then max (needF lb (sg.take i)) (lg q + 1 - lg (p : Int)) else needF lb (sg.take i) := by
  unfold needF; rw [foldl_take h]
theorem needF_ge (lb : Nat) : ∀ (sg : List (Nat × Int)), lb ≤ needF lb sg := by
  intro sg
  induction sg generalizing lb with
  | nil => exact Nat.le_refl _
  | cons x sg ih =>
    show lb ≤ needF (if 0 < x.2 then max lb (lg x.2 + 1 - lg (x.1 : Int)) else lb) sg
    refine Nat.le_trans ?_ (ih _)
    split <;> omega
theorem lg_le40 {q : Int} (h : q ≤ 1000000000000) : lg q ≤ 40 := by
  unfold lg
  by_cases h0 : q.toNat = 0
  · rw [h0]; simp
  · have : q.toNat < 2 ^ 40 := by
      have : (2 : Nat) ^ 40 = 1099511627776 := by decide
      omega
    have := (Nat.log2_lt h0).2 this
    omega
theorem needF_le (lb : Nat) : ∀ (sg : List (Nat × Int)), lb ≤ 50 → (∀ x ∈ sg, x.2 ≤ 1000000000000) → needF lb sg ≤ 50 := by
  intro sg
  induction sg generalizing lb with
  | nil => intro h _; exact h
  | cons x sg ih =>
    intro h hx
    show needF (if 0 < x.2 then max lb (lg x.2 + 1 - lg (x.1 : Int)) else lb) sg ≤ 50
    refine ih _ ?_ (fun y hy => hx y (List.mem_cons_of_mem _ hy))
    have := lg_le40 (hx x List.mem_cons_self)
    split <;> omega
theorem sizeBits_next {nd i p : Nat} {q : Int} {sg : List (Nat × Int)} (h : sg[i]? = some (p, q)) :
    sizeBits nd (sg.take (i + 1)) = sizeBits nd (sg.take i) ++ bitsOf q ((nd + lg (p : Int) : Nat) : Int) := by
  unfold sizeBits; rw [take_next h, List.flatMap_append]; simp
theorem bitsOf_le' (n size : Int) : (bitsOf n size).length ≤ 32 := by
  unfold bitsOf
  split
  · simp
  · simp; omega
theorem sizeBits_le (nd : Nat) : ∀ (sg : List (Nat × Int)), (sizeBits nd sg).length ≤ 32 * sg.length := by
  intro sg
  induction sg with
  | nil => simp [sizeBits]
  | cons x sg ih =>
    simp only [sizeBits, List.flatMap_cons, List.length_append, List.length_cons] at ih ⊢
    have := bitsOf_le' x.2 ((nd + lg (x.1 : Int) : Nat) : Int)
    omega
theorem sizeBits_take_le (nd : Nat) (sg : List (Nat × Int)) (i : Nat) : (sizeBits nd (sg.take i)).length ≤ (sizeBits nd sg).length := by
  conv => rhs; rw [← List.take_append_drop i sg]
  unfold sizeBits
  rw [List.flatMap_append, List.length_append]; omega
theorem flag_bits (b : Bool) : bitsOf (if b = true then 1 else 0) 1 = [b] := by cases b <;> decide
theorem tellBits_le (n : Int) : (tellBits n).length ≤ 64 := by
  unfold tellBits
  have := bitsOf_le'
  split
  · simp
  · split
    · have := bitsOf_le' 2 2; omega
    · split
      · have := bitsOf_le' 3 2; have := bitsOf_le' (n - 3) 2; simp only [List.length_append]; omega
      · split
        · have := bitsOf_le' 15 4; have := bitsOf_le' (n - 6) 5; simp only [List.length_append]; omega
        · have := bitsOf_le' 511 9; have := bitsOf_le' (n - 37) 7; simp only [List.length_append]; omega
theorem encLoop_le : ∀ (f : Nat) (x : Nd), (encLoop f x).1.length ≤ f := by
  intro f
  induction f with
  | zero => intro x; simp [encLoop]
  | succ f ih =>
    intro x
    simp only [encLoop]
    split
    · simp
    · split
      · simp
      · have := ih { x with low := x.low + 1 }
        simp; omega
theorem encNode_low (x : Nd) (low bound : Int) (h : 0 ≤ low) : 0 ≤ (encNode x low bound).2.low := by
  have key : ∀ (f : Nat) (x : Nd), 0 ≤ x.low → 0 ≤ (encLoop f x).2.low := by
    intro f
    induction f with
    | zero => intro x h; simpa [encLoop] using h
    | succ f ih =>
      intro x h
      simp only [encLoop]
      split
      · exact h
      · split
        · exact h
        · exact ih _ (by dsimp only; omega)
  exact key _ _ (by dsimp only; omega)
theorem encNode_le (x : Nd) (low : Int) {bound : Int} (hl : 0 ≤ low) : (encNode x low bound).1.length ≤ bound.toNat := by
  unfold encNode
  refine Nat.le_trans (encLoop_le _ _) ?_
  omega
theorem encWay_le {bound : Int} : ∀ (ps : List Nat) (T : List Nd) (low : Int), 0 ≤ low → (encWay bound ps T low).1.length ≤ ps.length * bound.toNat := by
  intro ps
  induction ps with
  | nil => intro T low _; simp [encWay]
  | cons p ps ih =>
    intro T low h
    simp only [encWay, List.length_append, List.length_cons]
    have h1 := encNode_le (T.getD p ⟨0, 0, false⟩) low (bound := bound) h
    have h2 := ih (T.set p (encNode (T.getD p ⟨0, 0, false⟩) low bound).2) (encNode (T.getD p ⟨0, 0, false⟩) low bound).2.low (encNode_low _ _ _ h)
    rw [Nat.succ_mul]; omega
theorem encT_le {sh : List (Nat × Nat)} (T : List Nd) (k bound : Int) (hF : Fine sh) : (encT sh T k bound).1.length ≤ 60 * bound.toNat := by
  unfold encT
  refine Nat.le_trans (encWay_le _ _ _ (Int.le_refl _)) ?_
  have h1 := tway_le sh k
  have h2 := hF.2.1
  exact Nat.mul_le_mul_right _ (by omega)
theorem encWay_len {bound : Int} : ∀ (ps : List Nat) (T : List Nd) (low : Int), (encWay bound ps T low).2.length = T.length := by
  intro ps
  induction ps with
  | nil => intro T low; rfl
  | cons p ps ih => intro T low; simp only [encWay]; rw [ih]; simp
theorem encT_len (sh : List (Nat × Nat)) (T : List Nd) (k bound : Int) : (encT sh T k bound).2.length = T.length := encWay_len _ _ _
theorem zlF_le {sh : List (Nat × Nat)} (hF : Fine sh) (k : Nat) : ∀ (f n : Nat) (T : List Nd), (zlF sh k f n T).1.length ≤ f * (60 * (n + f)) := by
  intro f
  induction f with
  | zero => intro n T; simp [zlF]
  | succ f ih =>
    intro n T
    simp only [zlF, List.length_append]
    have h1 := encT_le T (k : Int) (n : Int) hF
    have h2 := ih (n + 1) (encT sh T k n).2
    simp only [Int.toNat_natCast] at h1
    have e : f * (60 * (n + 1 + f)) = f * (60 * (n + (f + 1))) := by congr 2; omega
    rw [e] at h2
    rw [Nat.succ_mul]
    have h3 : 60 * n ≤ 60 * (n + (f + 1)) := Nat.mul_le_mul_left _ (by omega)
    omega
theorem zlF_len (sh : List (Nat × Nat)) (k : Nat) : ∀ (f n : Nat) (T : List Nd), (zlF sh k f n T).2.length = T.length := by
  intro f
  induction f with
  | zero => intro n T; rfl
  | succ f ih => intro n T; simp only [zlF]; rw [ih, encT_len]
theorem segsF_le (style : Int) (frm to : Nat) (ends : List Int) : (segsF style frm to ends).length ≤ to - frm := by
  unfold segsF; rw [segs_length]; exact cuts_length _ _
theorem segs_bound {ends : List Int} (hE : EndsOk ends) : ∀ (cs : List Nat) (p : Nat) (w : Int), 0 ≤ w → ∀ x ∈ segs ends cs p w, x.2 ≤ 1000000000000 := by
  intro cs
  induction cs with
  | nil => intro p w _ x hx; simp [segs] at hx
  | cons c cs ih =>
    intro p w hw x hx
    have h1 := hE.getD c
    rcases List.mem_cons.1 hx with rfl | hx
    · dsimp only; omega
    · exact ih _ _ h1.1 x hx
theorem segsF_bound {style : Int} {frm to : Nat} {ends : List Int} (hE : EndsOk ends) : ∀ x ∈ segsF style frm to ends, x.2 ≤ 1000000000000 := segs_bound hE _ _ _ (hE.was0 _).1
theorem head1_le {layer to : Nat} {bd : Bd} {k : Nat} {s : Bs} (hB : BdOk bd) (hl : layer ≤ 100) : (head1 layer to bd k s).1.length ≤ 10000 := by
  unfold head1
  split
  · have h := encT_le bd.first (k : Int) ((layer + 1 : Nat) : Int) hB.fine
    simp only [Int.toNat_natCast] at h
    omega
  · simp
theorem head2_le {bd : Bd} {k : Nat} {s : Bs} (hB : BdOk bd) (hs : BsOk s) : (head2 bd k s).1.length ≤ 400000000 := by
  unfold head2
  split
  · have h := zlF_le hB.fine k ((max (bd.planes - s.b.pl) 0).toNat + 1) 1 bd.zeros
    have h1 := hB.p1
    have h2 := hs.b.pl0
    have h3 : (max (bd.planes - s.b.pl) 0).toNat + 1 ≤ 1001 := by omega
    have h4 : 60 * (1 + ((max (bd.planes - s.b.pl) 0).toNat + 1)) ≤ 60 * 1002 := by omega
    have := Nat.mul_le_mul h3 h4
    omega
  · simp
theorem headF_le {style : Int} {layer to : Nat} {bd : Bd} {k : Nat} {s : Bs} (hB : BdOk bd) (hs : BsOk s) (hl : layer ≤ 100) (ht : to ≤ 1000) : (headF style layer to bd k s).bits.length ≤ 500000000 := by
  have h1 := head1_le (to := to) (k := k) (s := s) hB hl
  have h2 := head2_le (k := k) hB hs
  unfold headF
  split
  · exact Nat.le_trans h1 (by omega)
  · have h3 := tellBits_le ((to - s.said : Nat) : Int)
    have h4 := sizeBits_le (needF s.lb (segOf style to s)) (segOf style to s)
    have h5 : (segOf style to s).length ≤ to - s.said := segsF_le _ _ _ _
    have h6 := needF_le s.lb (segOf style to s) hs.lb (segsF_bound hs.b.ends)
    simp only [List.length_append, List.length_replicate, List.length_singleton]
    omega
theorem segs_pos {b : Bk} (hb : BkOk b) {style : Int} {frm to : Nat} (hft : frm ≤ to) (ht : to ≤ b.ps.length) : ∀ (n k : Nat) (p : Nat) (w : Int), k + n = to → w = was0 k (endsOf b) ∨ (∃ j, j ≤ k ∧ w = was0 j (endsOf b)) →
    ∀ x ∈ segs (endsOf b) (cuts style to n k) p w, 0 ≤ x.2 := by
  intro n
  induction n with
  | zero => intro k p w _ _ x hx; simp [cuts, segs] at hx
  | succ n ih =>
    intro k p w hk hw x hx
    have hup : ∀ j, j ≤ k → was0 j (endsOf b) ≤ (endsOf b).getD k 0 := by
      intro j hj
      unfold was0
      split
      · exact hb.up _ _ (by omega) (by omega)
      · exact (hb.ends.getD k).1
    have hw2 : ∃ j, j ≤ k ∧ w = was0 j (endsOf b) := by
      rcases hw with h | h
      · exact ⟨k, Nat.le_refl _, h⟩
      · exact h
    simp only [cuts] at hx
    split at hx
    · simp only [segs] at hx
      rcases List.mem_cons.1 hx with rfl | hx
      · obtain ⟨j, hj, rfl⟩ := hw2
        have := hup j hj
        dsimp only; omega
      · refine ih (k + 1) _ _ (by omega) (.inl ?_) x hx
        unfold was0; rw [if_pos (by omega)]; rfl
    · obtain ⟨j, hj, rfl⟩ := hw2
      exact ih (k + 1) _ _ (by omega) (.inr ⟨j, by omega, rfl⟩) x hx
theorem segsF_pos {b : Bk} (hb : BkOk b) {style : Int} {frm to : Nat} (hft : frm ≤ to) (ht : to ≤ b.ps.length) : ∀ x ∈ segsF style frm to (endsOf b), 0 ≤ x.2 :=
  segs_pos hb hft ht _ _ _ _ (by omega) (.inl rfl)
theorem segs_passes {ends : List Int} {style : Int} {to : Nat} : ∀ (n k p : Nat) (w : Int), p ≤ k → k + n ≤ to → ∀ x ∈ segs ends (cuts style to n k) p w, 1 ≤ x.1 ∧ x.1 ≤ to := by
  intro n
  induction n with
  | zero => intro k p w _ _ x hx; simp [cuts, segs] at hx
  | succ n ih =>
    intro k p w hp hk x hx
    simp only [cuts] at hx
    split at hx
    · simp only [segs] at hx
      rcases List.mem_cons.1 hx with rfl | hx
      · dsimp only; omega
      · exact ih (k + 1) _ _ (by omega) (by omega) x hx
    · exact ih (k + 1) _ _ (by omega) (by omega) x hx
theorem segsF_passes {ends : List Int} {style : Int} {frm to : Nat} (h : frm ≤ to) : ∀ x ∈ segsF style frm to ends, 1 ≤ x.1 ∧ x.1 ≤ to := segs_passes _ _ _ _ (Nat.le_refl _) (by omega)
end Go.Eng
/- Plain: what holds of the bands while a packet is made. -/
set_option linter.unusedVariables false
set_option linter.unusedSimpArgs false
namespace Go.Eng
open Go
theorem plantF_ss (count : Nat) (bd : Bd) : (plantF count bd).ss = bd.ss := by unfold plantF; split <;> rfl
theorem plantF_sh (count : Nat) (bd : Bd) : (plantF count bd).sh = bd.sh := by unfold plantF; split <;> rfl
theorem plantF_planes (count : Nat) (bd : Bd) : (plantF count bd).planes = bd.planes := by unfold plantF; split <;> rfl
theorem plantF_set (count : Nat) (bd : Bd) : (plantF count bd).set = true := by
  unfold plantF; split
  · assumption
  · rfl
theorem leaves_head {bd : Bd} (hB : BdOk bd) {nums : List Int} (hn : nums.length = bd.ss.length) : ∀ s, bd.sh.head? = some s → nums.length = s.1 * s.2 := by
  intro s hs
  have := hB.leaves
  unfold leavesOf at this
  rw [hs] at this
  rw [hn, ← this]
theorem plantF_ok {count : Nat} {bd : Bd} (hB : BdOk bd) : BdOk (plantF count bd) := by
  unfold plantF
  split
  · exact hB
  · rename_i h
    refine ⟨hB.p0, hB.p1, hB.fine, hB.ends, hB.leaves, ?_, ?_, hB.ss, fun h => by simp at h⟩
    · rw [mk0_length]; exact mins_length _ _ hB.fine.1 (leaves_head hB (by simp [firstNums]))
    · rw [mk0_length]; exact mins_length _ _ hB.fine.1 (leaves_head hB (by simp [zeroNums]))
theorem plantF_again (count : Nat) (bd : Bd) : plantF count (plantF count bd) = plantF count bd := if_pos (plantF_set count bd)
def BdsOk (ns : List Nat) (bds : List Bd) : Prop := bds.length = ns.length ∧ ∀ (j : Nat) (bd : Bd), bds[j]? = some bd → BdOk bd ∧ ns[j]? = some bd.ss.length
theorem BdsOk.self {bds : List Bd} (h : ∀ bd ∈ bds, BdOk bd) : BdsOk (counts bds) bds := by
  refine ⟨by simp [counts], fun j bd hj => ⟨h bd (List.mem_of_getElem? hj), by simp [counts, hj]⟩⟩
theorem BdsOk.put {ns : List Nat} {bds : List Bd} (h : BdsOk ns bds) {j : Nat} {bd bd' : Bd} (hj : bds[j]? = some bd) (hb : BdOk bd') (hl : bd'.ss.length = bd.ss.length) : BdsOk ns (bds.set j bd') := by
  refine ⟨by simp [h.1], fun i b hi => ?_⟩
  by_cases hij : j = i
  · subst hij
    have hlt := (List.getElem?_eq_some_iff.1 hj).1
    rw [List.getElem?_set_self hlt] at hi
    injection hi with hi; subst hi
    exact ⟨hb, by rw [hl]; exact (h.2 j bd hj).2⟩
  · rw [List.getElem?_set_ne hij] at hi
    exact h.2 i b hi
theorem BdsOk.at {ns : List Nat} {bds : List Bd} (h : BdsOk ns bds) {j k n : Nat} (hn : ns[j]? = some n) (hk : k < n) : ∃ bd s, bds[j]? = some bd ∧ bd.ss[k]? = some s ∧ BdOk bd ∧ BsOk s := by
  have hj : j < bds.length := by rw [h.1]; exact (List.getElem?_eq_some_iff.1 hn).1
  obtain ⟨hB, hl⟩ := h.2 j bds[j] (List.getElem?_eq_getElem hj)
  rw [hn] at hl
  injection hl with hl
  have hk2 : k < bds[j].ss.length := by omega
  exact ⟨bds[j], bds[j].ss[k], List.getElem?_eq_getElem hj, List.getElem?_eq_getElem hk2, hB, hB.ss _ (List.getElem_mem hk2)⟩
theorem plantStep_eq {count j k : Nat} {bds : List Bd} {bd : Bd} (h : bds[j]? = some bd) : plantStep count bds (j, k) = bds.set j (plantF count bd) := by
  unfold plantStep; dsimp only; rw [h]
theorem plantStep_ok {ns : List Nat} {count : Nat} {bds : List Bd} (h : BdsOk ns bds) (x : Nat × Nat) : BdsOk ns (plantStep count bds x) := by
  unfold plantStep
  split
  · rename_i bd hj
    exact h.put hj (plantF_ok (h.2 _ _ hj).1) (by rw [plantF_ss])
  · exact h
theorem plantN_ok {ns : List Nat} {count : Nat} : ∀ (l : List (Nat × Nat)) {bds : List Bd}, BdsOk ns bds → BdsOk ns (l.foldl (plantStep count) bds) := by
  intro l
  induction l with
  | nil => intro bds h; exact h
  | cons x l ih => intro bds h; exact ih (plantStep_ok h x)
theorem plantN_get {count : Nat} : ∀ (l : List (Nat × Nat)) {bds : List Bd} {j : Nat} {bd' : Bd}, (l.foldl (plantStep count) bds)[j]? = some bd' →
    ∃ bd, bds[j]? = some bd ∧ bd'.ss = bd.ss ∧ (bd' = bd ∨ bd' = plantF count bd) := by
  intro l
  induction l with
  | nil => intro bds j bd' h; exact ⟨bd', h, rfl, .inl rfl⟩
  | cons x l ih =>
    intro bds j bd' h
    obtain ⟨bd, h1, h2, h3⟩ := ih h
    unfold plantStep at h1
    split at h1
    · rename_i bd0 h0
      by_cases hx : x.1 = j
      · subst hx
        have hlt := (List.getElem?_eq_some_iff.1 h0).1
        rw [List.getElem?_set_self hlt] at h1
        injection h1 with h1; subst h1
        refine ⟨bd0, h0, by rw [h2, plantF_ss], ?_⟩
        rcases h3 with rfl | rfl
        · exact .inr rfl
        · rw [plantF_again]; exact .inr rfl
      · rw [List.getElem?_set_ne hx] at h1
        exact ⟨bd, h1, h2, h3⟩
    · exact ⟨bd, h1, h2, h3⟩
theorem plantN_set {count : Nat} : ∀ (l : List (Nat × Nat)) {bds : List Bd} {j k : Nat} {bd' : Bd}, (j, k) ∈ l → (l.foldl (plantStep count) bds)[j]? = some bd' → bd'.set = true := by
  intro l
  induction l with
  | nil => intro bds j k bd' h; simp at h
  | cons x l ih =>
    intro bds j k bd' h h'
    rcases List.mem_cons.1 h with rfl | h
    · obtain ⟨bd, h1, h2, h3⟩ := plantN_get l h'
      unfold plantStep at h1
      dsimp only at h1
      split at h1
      · rename_i bd0 h0
        have hlt := (List.getElem?_eq_some_iff.1 h0).1
        rw [List.getElem?_set_self hlt] at h1
        injection h1 with h1; subst h1
        rcases h3 with rfl | rfl
        · exact plantF_set _ _
        · exact plantF_set _ _
      · rename_i h0; rw [h1] at h0; exact absurd h0 (by simp)
    · exact ih h h'
theorem toOf_le {count layer : Nat} {s : Bs} (hs : BsOk s) : s.said ≤ toOf count layer s ∧ toOf count layer s ≤ s.b.ps.length := by
  unfold toOf
  have := passesF_le (total := s.b.ps.length) (count := count) (l := layer + 1)
  have := hs.said
  omega
theorem head1_len {layer to : Nat} {bd : Bd} {k : Nat} {s : Bs} : (head1 layer to bd k s).2.length = bd.first.length := by
  unfold head1; split
  · exact encT_len _ _ _ _
  · rfl
theorem head2_len {bd : Bd} {k : Nat} {s : Bs} : (head2 bd k s).2.length = bd.zeros.length := by
  unfold head2; split
  · exact zlF_len _ _ _ _ _
  · rfl
theorem headF_first {style : Int} {layer to : Nat} {bd : Bd} {k : Nat} {s : Bs} : (headF style layer to bd k s).first = (head1 layer to bd k s).2 := by unfold headF; split <;> rfl
theorem headF_zeros_len {style : Int} {layer to : Nat} {bd : Bd} {k : Nat} {s : Bs} : (headF style layer to bd k s).zeros.length = bd.zeros.length := by
  unfold headF; split
  · rfl
  · exact head2_len
theorem headF_lb {style : Int} {layer to : Nat} {bd : Bd} {k : Nat} {s : Bs} (hs : BsOk s) : (headF style layer to bd k s).lb ≤ 50 := by
  unfold headF; split
  · exact hs.lb
  · exact needF_le _ _ hs.lb (segsF_bound hs.b.ends)
theorem headed_ok {style : Int} {layer to : Nat} {bd : Bd} {k said : Nat} {s : Bs} (hB : BdOk bd) (hset : bd.set = true) (hs : bd.ss[k]? = some s) (hsaid : said ≤ s.b.ps.length) :
    BdOk { bd with first := (headF style layer to bd k s).first, zeros := (headF style layer to bd k s).zeros, ss := bd.ss.set k { s with said := said, lb := (headF style layer to bd k s).lb } } := by
  have hso := hB.ss s (List.mem_of_getElem? hs)
  refine ⟨hB.p0, hB.p1, hB.fine, hB.ends, by simp [hB.leaves], ?_, ?_, ?_, fun h => by dsimp only at h; rw [hset] at h; simp at h⟩
  · dsimp only; rw [headF_first, head1_len]; exact hB.fl
  · dsimp only; rw [headF_zeros_len]; exact hB.zl
  · intro x hx
    rcases List.mem_or_eq_of_mem_set hx with hx | rfl
    · exact hB.ss x hx
    · exact ⟨hso.b, hsaid, headF_lb hso⟩
theorem stepF_ok {style : Int} {count layer : Nat} {bd : Bd} {k : Nat} {s : Bs} (hB : BdOk bd) (hset : bd.set = true) (hs : bd.ss[k]? = some s) : BdOk (stepF style count layer bd k s) :=
  headed_ok hB hset hs (toOf_le (hB.ss s (List.mem_of_getElem? hs))).2
theorem encStep_eq {style : Int} {count layer j k : Nat} {e : ES} {bd : Bd} {s : Bs} (h : e.bds[j]? = some bd) (hs : bd.ss[k]? = some s) :
    encStep style count layer e (j, k) = ⟨e.bits ++ (headF style layer (toOf count layer s) bd k s).bits, e.body ++ (if s.said < toOf count layer s then bodyF s (toOf count layer s) else []), e.bds.set j (stepF style count layer bd k s)⟩ := by
  unfold encStep; dsimp only; rw [h]; dsimp only; rw [hs]
theorem bodyF_le (s : Bs) (to : Nat) : (bodyF s to).length ≤ s.b.bys.length := by
  unfold bodyF; simp; omega
structure EsOk (ns : List Nat) (i : Nat) (e : ES) : Prop where
  bds : BdsOk ns e.bds
  set : ∀ (j : Nat) (bd : Bd), e.bds[j]? = some bd → bd.ss ≠ [] → bd.set = true
  bits : e.bits.length ≤ 1 + 500000000 * i
  body : e.body.length ≤ 100000000 * i
theorem encStep_ok {ns : List Nat} {i : Nat} {style : Int} {count layer : Nat} {e : ES} (h : EsOk ns i e) (hl : layer ≤ 100) (x : Nat × Nat) : EsOk ns (i + 1) (encStep style count layer e x) := by
  unfold encStep
  have hkeep : EsOk ns (i + 1) e := ⟨h.bds, h.set, by have := h.bits; omega, by have := h.body; omega⟩
  split
  · rename_i bd hj
    split
    · rename_i s hs
      obtain ⟨hB, _⟩ := h.bds.2 _ _ hj
      have hso := hB.ss s (List.mem_of_getElem? hs)
      have hset := h.set _ _ hj (by rintro e; rw [e] at hs; simp at hs)
      have ht := toOf_le (count := count) (layer := layer) hso
      have hh := headF_le (style := style) (layer := layer) (to := toOf count layer s) (k := x.2) hB hso hl (by have := hso.b.len; omega)
      refine ⟨h.bds.put hj (stepF_ok hB hset hs) (by simp [stepF]), ?_, ?_, ?_⟩
      · intro i' b hb hne
        by_cases hij : x.1 = i'
        · subst hij
          have hlt := (List.getElem?_eq_some_iff.1 hj).1
          dsimp only at hb
          rw [List.getElem?_set_self hlt] at hb
          injection hb with hb; subst hb
          exact hset
        · dsimp only at hb
          rw [List.getElem?_set_ne hij] at hb
          exact h.set i' b hb hne
      · have := h.bits
        dsimp only
        rw [List.length_append]; omega
      · have h1 := h.body
        have h2 := bodyF_le s (toOf count layer s)
        have h3 := hso.b.size
        dsimp only
        rw [List.length_append]
        split
        · omega
        · simp; omega
    · exact hkeep
  · exact hkeep
theorem encN_ok {ns : List Nat} {style : Int} {count layer : Nat} (hl : layer ≤ 100) : ∀ (l : List (Nat × Nat)) {i : Nat} {e : ES}, EsOk ns i e → EsOk ns (i + l.length) (l.foldl (encStep style count layer) e) := by
  intro l
  induction l with
  | nil => intro i e h; exact h
  | cons x l ih =>
    intro i e h
    have := ih (encStep_ok (style := style) (count := count) h hl x)
    rw [List.length_cons, show i + (l.length + 1) = i + 1 + l.length by omega]
    exact this
theorem spots_all {ns : List Nat} {j k n : Nat} (h : ns[j]? = some n) (hk : k < n) : (j, k) ∈ spotsL ns 0 := by
  have := spots_get (j0 := 0) h hk
  rw [Nat.zero_add] at this
  exact List.mem_of_getElem? this
theorem planted_ok {count : Nat} {bds : List Bd} (h : ∀ bd ∈ bds, BdOk bd) : EsOk (counts bds) 0 ⟨[true], [], planted count bds⟩ := by
  have hs := plantN_ok (count := count) (spotsL (counts bds) 0) (BdsOk.self h)
  refine ⟨hs, ?_, by simp, by simp⟩
  intro j bd hj hne
  obtain ⟨_, hn⟩ := hs.2 j bd hj
  exact plantN_set (k := 0) _ (spots_all hn (List.length_pos_iff.2 hne)) hj
theorem was0_le {b : Bk} (hb : BkOk b) {frm to : Nat} (h : frm < to) (ht : to ≤ b.ps.length) : was0 frm (endsOf b) ≤ (endsOf b).getD (to - 1) 0 := by
  unfold was0
  split
  · exact hb.up _ _ (by omega) (by omega)
  · exact (hb.ends.getD _).1
theorem body_u8s (s : Bs) (to : Nat) : ((u8s s.b.bys).drop ((was0 s.said (endsOf s.b)).toNat * 1)).take ((((endsOf s.b).getD (to - 1) 0).toNat - (was0 s.said (endsOf s.b)).toNat) * 1) = u8s (bodyF s to) := by
  unfold bodyF u8s
  rw [Nat.mul_one, Nat.mul_one, List.drop_take, List.map_take, List.map_drop]
theorem body_len {s : Bs} {to : Nat} (hs : BsOk s) (h1 : s.said < to) (h2 : to ≤ s.b.ps.length) :
    (bodyF s to).length = ((endsOf s.b).getD (to - 1) 0).toNat - (was0 s.said (endsOf s.b)).toNat := by
  have := hs.b.le (to - 1) (by omega)
  unfold bodyF
  rw [List.length_drop, List.length_take]
  omega
end Go.Eng
/- Plain: trees that may be said; layers one behind the other. -/
set_option linter.unusedVariables false
set_option linter.unusedSimpArgs false
namespace Go.Eng
open Go
def nd0 : Nd := ⟨0, 0, false⟩
def NodeOk (T : List Nd) : Prop := ∀ nd ∈ T, nd.low ≤ nd.n ∧ 0 ≤ nd.low
def numsOf (T : List Nd) : List Int := T.map (·.n)
theorem NodeOk.getD {T : List Nd} (h : NodeOk T) (p : Nat) : (T.getD p nd0).low ≤ (T.getD p nd0).n ∧ 0 ≤ (T.getD p nd0).low := by
  rw [List.getD_eq_getElem?_getD]
  cases hp : T[p]? with
  | none => simp [nd0]
  | some x => exact h x (List.mem_of_getElem? hp)
theorem encLoop_ok : ∀ (f : Nat) (x : Nd), x.low ≤ x.n → 0 ≤ x.low → (encLoop f x).2.n = x.n ∧ (encLoop f x).2.low ≤ x.n ∧ 0 ≤ (encLoop f x).2.low := by
  intro f
  induction f with
  | zero => intro x h h0; exact ⟨rfl, h, h0⟩
  | succ f ih =>
    intro x h h0
    simp only [encLoop]
    split
    · exact ⟨rfl, h, h0⟩
    · split
      · exact ⟨rfl, h, h0⟩
      · have := ih { x with low := x.low + 1 } (by dsimp only; omega) (by dsimp only; omega)
        exact this
theorem encNode_ok {x : Nd} {low bound : Int} (h : max x.low low ≤ x.n) (h0 : 0 ≤ low) : (encNode x low bound).2.n = x.n ∧ (encNode x low bound).2.low ≤ x.n ∧ 0 ≤ (encNode x low bound).2.low := by
  unfold encNode
  exact encLoop_ok _ { x with low := max x.low low } h (by dsimp only; omega)
theorem numsOf_set {T : List Nd} {p : Nat} {x : Nd} (h : x.n = (T.getD p nd0).n) : numsOf (T.set p x) = numsOf T := by
  unfold numsOf
  rw [List.map_set]
  apply List.ext_getElem?
  intro i
  by_cases hi : p = i
  · subst hi
    by_cases hlt : p < T.length
    · rw [List.getElem?_set_self (by simpa using hlt), List.getElem?_map, List.getElem?_eq_getElem hlt]
      rw [h, List.getD_eq_getElem?_getD, List.getElem?_eq_getElem hlt]; rfl
    · rw [List.getElem?_eq_none (by simp; omega), List.getElem?_eq_none (by simp; omega)]
  · rw [List.getElem?_set_ne hi]
theorem nodeOk_set {T : List Nd} (hT : NodeOk T) {p : Nat} {x : Nd} (h : x.low ≤ x.n ∧ 0 ≤ x.low) : NodeOk (T.set p x) := by
  intro nd hnd
  rcases List.mem_or_eq_of_mem_set hnd with h' | rfl
  · exact hT nd h'
  · exact h
theorem n_getD {T T' : List Nd} (h : numsOf T' = numsOf T) (p : Nat) : (T'.getD p nd0).n = (T.getD p nd0).n := by
  have e : ∀ T : List Nd, (T.getD p nd0).n = (numsOf T).getD p 0 := by
    intro T
    simp only [numsOf, List.getD_eq_getElem?_getD, List.getElem?_map]
    cases T[p]? <;> rfl
  rw [e, e, h]
def UpChain (T : List Nd) : List Nat → Int → Prop
  | [], _ => True
  | p :: ps, low => low ≤ (T.getD p nd0).n ∧ UpChain T ps (T.getD p nd0).n
theorem upChain_congr {T T' : List Nd} (h : numsOf T' = numsOf T) : ∀ (l : List Nat) (low : Int), UpChain T l low → UpChain T' l low := by
  intro l
  induction l with
  | nil => intros; trivial
  | cons p ps ih => intro low hc; exact ⟨by rw [n_getD h]; exact hc.1, by rw [n_getD h]; exact ih _ hc.2⟩
theorem upChain_less {T : List Nd} {l : List Nat} {a b : Int} (h : a ≤ b) (hc : UpChain T l b) : UpChain T l a := by
  cases l with
  | nil => trivial
  | cons p ps => exact ⟨Int.le_trans h hc.1, hc.2⟩
theorem way_ok {bound : Int} : ∀ (l : List Nat) (T : List Nd) (low : Int), 0 ≤ low → NodeOk T → UpChain T l low → WayOk bound l T low ∧ NodeOk (encWay bound l T low).2 ∧ numsOf (encWay bound l T low).2 = numsOf T := by
  intro l
  induction l with
  | nil => intro T low _ hT _; exact ⟨trivial, hT, rfl⟩
  | cons p ps ih =>
    intro T low h0 hT hc
    have hg := hT.getD p
    have hm : max (T.getD p nd0).low low ≤ (T.getD p nd0).n := by have := hc.1; omega
    have he := encNode_ok (bound := bound) hm h0
    have hn := numsOf_set (T := T) (p := p) he.1
    have hT2 := nodeOk_set hT (p := p) (x := (encNode (T.getD p nd0) low bound).2) ⟨by rw [he.1]; exact he.2.1, he.2.2⟩
    have hi := ih (T.set p (encNode (T.getD p nd0) low bound).2) (encNode (T.getD p nd0) low bound).2.low he.2.2 hT2 (upChain_less he.2.1 (upChain_congr hn _ _ hc.2))
    refine ⟨⟨hm, hi.1⟩, hi.2.1, ?_⟩
    exact hi.2.2.trans hn
structure TOk (sh : List (Nat × Nat)) (T : List Nd) : Prop where
  len : T.length = total sh
  node : NodeOk T
  up : ∀ (k : Nat) (s0 : Nat × Nat), sh[0]? = some s0 → k < s0.1 * s0.2 → UpChain T (tway sh (k : Int)) 0
theorem TOk.enc {sh : List (Nat × Nat)} {T : List Nd} (h : TOk sh T) {k : Nat} {s0 : Nat × Nat} (h0 : sh[0]? = some s0) (hk : k < s0.1 * s0.2) (bound : Int) :
    WayOk bound (tway sh (k : Int)) T 0 ∧ TOk sh (encT sh T k bound).2 := by
  have hw := way_ok (bound := bound) (tway sh (k : Int)) T 0 (Int.le_refl _) h.node (h.up k s0 h0 hk)
  refine ⟨hw.1, by rw [encT_len]; exact h.len, hw.2.1, fun k' s' h' hk' => ?_⟩
  exact upChain_congr hw.2.2 _ _ (h.up k' s' h' hk')
theorem leastOf_le {w h cx cy : Nat} {l : List Int} (hx : cx < w) (hy : cy < h) : leastOf w h l (cx / 2) (cy / 2) ≤ l.getD (cy * w + cx) 0 := by
  have h1 := (leastOf_spec (w := w) (h := h) (l := l) (x := cx / 2) (y := cy / 2) (by omega) (by omega)).1 (cx % 2) (cy % 2) (by omega) (by omega) (by omega) (by omega)
  rw [show 2 * (cx / 2) + cx % 2 = cx by omega, show 2 * (cy / 2) + cy % 2 = cy by omega] at h1
  exact h1
theorem up1_le {w h k : Nat} {l : List Int} (hw : 0 < w) (hk : k < w * h) : (up1 w h l).getD (parent w k) 0 ≤ l.getD k 0 := by
  have hp := parent_lt (h := h) hw hk
  have hx : k % w < w := Nat.mod_lt _ hw
  have hy : k / w < h := Nat.div_lt_of_lt_mul hk
  have hw2 : k % w / 2 < (w + 1) / 2 := by omega
  have e : (up1 w h l).getD (parent w k) 0 = leastOf w h l (k % w / 2) (k / w / 2) := by
    unfold up1
    rw [List.getD_eq_getElem?_getD, List.getElem?_map, List.getElem?_range hp]
    simp only [Option.map_some, Option.getD_some]
    unfold parent
    rw [show (k / w / 2 * ((w + 1) / 2) + k % w / 2) % ((w + 1) / 2) = k % w / 2 from by rw [Nat.add_comm, Nat.add_mul_mod_self_right, Nat.mod_eq_of_lt hw2],
      show (k / w / 2 * ((w + 1) / 2) + k % w / 2) / ((w + 1) / 2) = k / w / 2 from by rw [Nat.add_comm, Nat.add_mul_div_right _ _ (by omega), Nat.div_eq_of_lt hw2, Nat.zero_add]]
  rw [e]
  have := leastOf_le (l := l) hx hy
  rw [Nat.div_add_mod' k w] at this
  exact this
def DownChain (v : List Int) : List Nat → Int → Prop
  | [], _ => True
  | p :: ps, top => v.getD p 0 ≤ top ∧ DownChain v ps (v.getD p 0)
theorem mins_down : ∀ (sh : List (Nat × Nat)) (l pre : List Int) (k : Nat) (top : Int), Halves sh → (∀ s, sh.head? = some s → l.length = s.1 * s.2 ∧ k < s.1 * s.2) → l.getD k 0 ≤ top →
    DownChain (pre ++ mins sh l) (fpath sh pre.length k) top := by
  intro sh
  induction sh with
  | nil => intros; trivial
  | cons s sh ih =>
    intro l pre k top hH hl ht
    obtain ⟨hll, hk⟩ := hl s rfl
    have hpos := hH.pos
    simp only [fpath, mins, DownChain]
    have e1 : (pre ++ (l ++ mins sh (up1 s.1 s.2 l))).getD (pre.length + k) 0 = l.getD k 0 := by
      rw [List.getD_eq_getElem?_getD, List.getElem?_append_right (by omega), Nat.add_sub_cancel_left, List.getElem?_append_left (by omega), ← List.getD_eq_getElem?_getD]
    rw [e1]
    refine ⟨ht, ?_⟩
    have e2 : pre ++ (l ++ mins sh (up1 s.1 s.2 l)) = (pre ++ l) ++ mins sh (up1 s.1 s.2 l) := by rw [List.append_assoc]
    have e3 : pre.length + s.1 * s.2 = (pre ++ l).length := by rw [List.length_append, hll]
    rw [e2, e3]
    refine ih _ _ _ _ hH.tail ?_ (up1_le hpos.1 hk)
    intro s' hs'
    cases sh with
    | nil => simp at hs'
    | cons s2 sh2 =>
      simp at hs'; subst hs'
      obtain ⟨_, _, h1, h2, _⟩ := hH
      rw [h1, h2]
      exact ⟨up1_length _ _ _, parent_lt hpos.1 hk⟩
theorem down_up {v : List Int} {T : List Nd} (hv : numsOf T = v) : ∀ (l : List Nat) (acc : List Nat) (top : Int), (∀ p ∈ l, 0 ≤ v.getD p 0) → DownChain v l top → (UpChain T acc top) → 0 ≤ top → UpChain T (l.reverse ++ acc) 0 := by
  intro l
  induction l with
  | nil => intro acc top _ _ ha h0; exact upChain_less h0 ha
  | cons p ps ih =>
    intro acc top hpos hd ha h0
    have en : (T.getD p nd0).n = v.getD p 0 := by
      subst hv
      simp only [numsOf, List.getD_eq_getElem?_getD, List.getElem?_map]
      cases T[p]? <;> rfl
    rw [List.reverse_cons, List.append_assoc]
    refine ih (p :: acc) (v.getD p 0) (fun q hq => hpos q (List.mem_cons_of_mem _ hq)) hd.2 ?_ (hpos p List.mem_cons_self)
    exact ⟨by rw [en]; exact Int.le_refl _, by rw [en]; exact upChain_less hd.1 ha⟩
theorem up1_nonneg {w h : Nat} {l : List Int} (h0 : ∀ x ∈ l, 0 ≤ x) (hw : 0 < w) (hh : 0 < h) (hl : l.length = w * h) : ∀ x ∈ up1 w h l, 0 ≤ x := by
  intro x hx
  simp only [up1, List.mem_map, List.mem_range] at hx
  obtain ⟨k, hk, rfl⟩ := hx
  have h1 : k % ((w + 1) / 2) < (w + 1) / 2 := Nat.mod_lt _ (by omega)
  have h2 : k / ((w + 1) / 2) < (h + 1) / 2 := Nat.div_lt_of_lt_mul hk
  obtain ⟨dx, dy, _, _, _, _, e⟩ := (leastOf_spec (w := w) (h := h) (l := l) (x := k % ((w + 1) / 2)) (y := k / ((w + 1) / 2)) (by omega) (by omega)).2
  rw [e, List.getD_eq_getElem?_getD]
  cases hx : l[(2 * (k / ((w + 1) / 2)) + dy) * w + (2 * (k % ((w + 1) / 2)) + dx)]? with
  | none => simp
  | some y => exact h0 y (List.mem_of_getElem? hx)
theorem mins_nonneg : ∀ (sh : List (Nat × Nat)) (l : List Int), Halves sh → (∀ s, sh.head? = some s → l.length = s.1 * s.2) → (∀ x ∈ l, 0 ≤ x) → ∀ x ∈ mins sh l, 0 ≤ x := by
  intro sh
  induction sh with
  | nil => intro l _ _ _ x hx; simp [mins] at hx
  | cons s sh ih =>
    intro l hH hl h0 x hx
    simp only [mins, List.mem_append] at hx
    rcases hx with hx | hx
    · exact h0 x hx
    · refine ih _ hH.tail ?_ (up1_nonneg h0 hH.pos.1 hH.pos.2 (hl s rfl)) x hx
      intro s' hs'
      cases sh with
      | nil => simp at hs'
      | cons s2 sh2 =>
        simp at hs'; subst hs'
        obtain ⟨_, _, h1, h2, _⟩ := hH
        rw [h1, h2]; exact up1_length _ _ _
theorem numsOf_mk0 (l : List Int) : numsOf (mk0 l) = l := by
  unfold numsOf mk0
  simp only [List.map_map]
  conv => rhs; rw [← List.map_id l]
  rfl
theorem TOk.mins {sh : List (Nat × Nat)} {nums : List Int} (hH : Halves sh) (hl : ∀ s, sh.head? = some s → nums.length = s.1 * s.2) (h0 : ∀ x ∈ nums, 0 ≤ x) : TOk sh (mk0 (mins sh nums)) := by
  have hp := mins_nonneg sh nums hH hl h0
  refine ⟨by rw [mk0_length]; exact mins_length _ _ hH hl, ?_, ?_⟩
  · intro nd hnd
    simp only [mk0, List.mem_map] at hnd
    obtain ⟨x, hx, rfl⟩ := hnd
    exact ⟨hp x hx, Int.le_refl _⟩
  · intro k s0 hs0 hk
    rw [tway_some hs0 hk]
    have hd := mins_down sh nums [] k (nums.getD k 0) hH (by
      intro s hs
      rw [List.head?_eq_getElem?, hs0] at hs
      injection hs with hs; subst hs
      exact ⟨hl s0 (by rw [List.head?_eq_getElem?]; exact hs0), hk⟩) (Int.le_refl _)
    simp only [List.nil_append, List.length_nil] at hd
    have hg : ∀ (l : List Int), (∀ x ∈ l, 0 ≤ x) → ∀ p, 0 ≤ l.getD p 0 := by
      intro l h p
      rw [List.getD_eq_getElem?_getD]
      cases hx : l[p]? with
      | none => simp
      | some y => exact h y (List.mem_of_getElem? hx)
    have := down_up (numsOf_mk0 (Eng.mins sh nums)) (fpath sh 0 k) [] (nums.getD k 0) (fun p _ => hg _ hp p) hd trivial (hg _ h0 k)
    rwa [List.append_nil] at this
end Go.Eng
/- Plain: layers one behind the other; what the document's way asks. -/
set_option linter.unusedVariables false
set_option linter.unusedSimpArgs false
namespace Go.Eng
open Go
theorem passesF_mono {n c l : Nat} (hc : 1 ≤ c) : passesF n c l ≤ passesF n c (l + 1) := by
  unfold passesF
  by_cases h0 : l < 1
  · rw [if_pos h0]; exact Nat.zero_le _
  · rw [if_neg h0, if_neg (show ¬ l + 1 < 1 by omega)]
    by_cases h1 : c < l
    · rw [if_pos h1, if_pos (by omega)]; exact Nat.le_refl _
    · rw [if_neg h1]
      by_cases h2 : c < l + 1
      · rw [if_pos h2]
        have h : n * l ≤ n * c := Nat.mul_le_mul_left _ (by omega)
        calc n * l / c ≤ n * c / c := Nat.div_le_div_right h
          _ = n := Nat.mul_div_cancel _ (by omega)
      · rw [if_neg h2]
        exact Nat.div_le_div_right (Nat.mul_le_mul_left _ (by omega))
def SaidAt (count layer : Nat) (bds : List Bd) : Prop := ∀ bd ∈ bds, ∀ s ∈ bd.ss, s.said = passesF s.b.ps.length count layer
theorem toOf_said {count layer : Nat} {s : Bs} (hc : 1 ≤ count) (h : s.said = passesF s.b.ps.length count layer) : toOf count layer s = passesF s.b.ps.length count (layer + 1) := by
  unfold toOf
  rw [h]
  have := passesF_mono (n := s.b.ps.length) (l := layer) hc
  omega
def HalfSaid (count layer j k : Nat) (bds : List Bd) : Prop :=
  ∀ (j' k' : Nat) (bd : Bd) (s : Bs), bds[j']? = some bd → bd.ss[k']? = some s → s.said = passesF s.b.ps.length count (if j' < j ∨ j' = j ∧ k' < k then layer + 1 else layer)
theorem half_begin {count layer : Nat} {bds : List Bd} (h : SaidAt count layer bds) : HalfSaid count layer 0 0 bds := by
  intro j' k' bd s hb hs
  rw [if_neg (by omega)]
  exact h bd (List.mem_of_getElem? hb) s (List.mem_of_getElem? hs)
theorem half_at {count layer j k : Nat} {bds : List Bd} (h : HalfSaid count layer j k bds) {bd : Bd} {s : Bs} (hb : bds[j]? = some bd) (hs : bd.ss[k]? = some s) : s.said = passesF s.b.ps.length count layer := by
  have := h j k bd s hb hs
  rwa [if_neg (by omega)] at this
theorem half_step {style : Int} {count layer j k : Nat} {e : ES} {bd : Bd} {s : Bs} (hc : 1 ≤ count) (h : HalfSaid count layer j k e.bds) (hb : e.bds[j]? = some bd) (hs : bd.ss[k]? = some s) :
    HalfSaid count layer j (k + 1) (encStep style count layer e (j, k)).bds := by
  rw [encStep_eq hb hs]
  intro j' k' bd' s' hb' hs'
  dsimp only at hb'
  by_cases hj : j = j'
  · subst hj
    have hlt := (List.getElem?_eq_some_iff.1 hb).1
    rw [List.getElem?_set_self hlt] at hb'
    injection hb' with hb'; subst hb'
    simp only [stepF] at hs'
    by_cases hk : k = k'
    · subst hk
      have hlk := (List.getElem?_eq_some_iff.1 hs).1
      rw [List.getElem?_set_self hlk] at hs'
      injection hs' with hs'; subst hs'
      rw [if_pos (by omega)]
      exact toOf_said hc (half_at h hb hs)
    · rw [List.getElem?_set_ne hk] at hs'
      have := h j k' bd s' hb hs'
      rw [this]
      congr 1
      by_cases h1 : k' < k
      · rw [if_pos (by omega), if_pos (by omega)]
      · rw [if_neg (by omega), if_neg (by omega)]
  · rw [List.getElem?_set_ne hj] at hb'
    have := h j' k' bd' s' hb' hs'
    rw [this]
    congr 1
    by_cases h1 : j' < j
    · rw [if_pos (by omega), if_pos (by omega)]
    · rw [if_neg (by omega), if_neg (by omega)]
theorem half_row {count layer j n : Nat} {bds : List Bd} (h : HalfSaid count layer j n bds) (hn : ∀ bd, bds[j]? = some bd → bd.ss.length ≤ n) : HalfSaid count layer (j + 1) 0 bds := by
  intro j' k' bd s hb hs
  rw [h j' k' bd s hb hs]
  congr 1
  by_cases h1 : j' < j
  · rw [if_pos (by omega), if_pos (by omega)]
  · by_cases h2 : j' = j
    · subst h2
      have := hn bd hb
      have := (List.getElem?_eq_some_iff.1 hs).1
      rw [if_pos (by omega), if_pos (by omega)]
    · rw [if_neg (by omega), if_neg (by omega)]
theorem half_end {count layer j : Nat} {bds : List Bd} (h : HalfSaid count layer j 0 bds) (hj : bds.length ≤ j) : SaidAt count (layer + 1) bds := by
  intro bd hb s hs
  obtain ⟨j', hj', rfl⟩ := List.getElem_of_mem hb
  obtain ⟨k', hk', rfl⟩ := List.getElem_of_mem hs
  rw [h j' k' _ _ (List.getElem?_eq_getElem hj') (List.getElem?_eq_getElem hk'), if_pos (by omega)]
theorem SaidAt.planted {count layer : Nat} {bds : List Bd} (h : SaidAt count layer bds) : SaidAt count layer (planted count bds) := by
  intro bd hb s hs
  obtain ⟨j, hj, rfl⟩ := List.getElem_of_mem hb
  obtain ⟨bd0, h1, h2, _⟩ := plantN_get _ (List.getElem?_eq_getElem hj)
  rw [h2] at hs
  exact h bd0 (List.mem_of_getElem? h1) s hs
theorem spots_split {ns : List Nat} {j n k : Nat} (hn : ns[j]? = some n) (hk : k < n) : (spotsL ns 0).take (offL ns j + (k + 1)) = (spotsL ns 0).take (offL ns j + k) ++ [(j, k)] := by
  have := spots_get (j0 := 0) hn hk
  rw [Nat.zero_add] at this
  exact take_next this
structure LOk (count layer : Nat) (bds : List Bd) : Prop where
  ok : ∀ bd ∈ bds, BdOk bd
  said : SaidAt count layer bds
def eAt (style : Int) (count layer : Nat) (bds : List Bd) (i : Nat) : ES := ((spotsL (counts bds) 0).take i).foldl (encStep style count layer) ⟨[true], [], planted count bds⟩
theorem eAt_next {style : Int} {count layer : Nat} {bds : List Bd} {j n k : Nat} (hn : (counts bds)[j]? = some n) (hk : k < n) :
    eAt style count layer bds (offL (counts bds) j + (k + 1)) = encStep style count layer (eAt style count layer bds (offL (counts bds) j + k)) (j, k) := by
  unfold eAt
  rw [spots_split hn hk, List.foldl_append]; rfl
theorem eAt_ok {style : Int} {count layer : Nat} {bds : List Bd} (hl : layer ≤ 100) (h : LOk count layer bds) (i : Nat) : EsOk (counts bds) (0 + ((spotsL (counts bds) 0).take i).length) (eAt style count layer bds i) :=
  encN_ok hl _ (planted_ok h.ok)
theorem eAt_half {style : Int} {count layer : Nat} {bds : List Bd} (hc : 1 ≤ count) (hl : layer ≤ 100) (h : LOk count layer bds) : ∀ (j k : Nat), (k = 0 ∧ j ≤ bds.length ∨ ∃ n, (counts bds)[j]? = some n ∧ k ≤ n) →
    HalfSaid count layer j k (eAt style count layer bds (offL (counts bds) j + k)).bds := by
  intro j
  induction j with
  | zero =>
    intro k
    induction k with
    | zero =>
      intro _
      have : offL (counts bds) 0 = 0 := by cases counts bds <;> rfl
      rw [this]
      exact half_begin (SaidAt.planted h.said)
    | succ k ih =>
      intro hk
      rcases hk with ⟨h0, _⟩ | ⟨n, hn, hk⟩
      · omega
      · rw [eAt_next hn (by omega)]
        obtain ⟨bd, s, hb, hs, _, _⟩ := (eAt_ok (style := style) hl h (offL (counts bds) 0 + k)).bds.at hn (show k < n by omega)
        exact half_step hc (ih (.inr ⟨n, hn, by omega⟩)) hb hs
  | succ j ihj =>
    intro k
    induction k with
    | zero =>
      intro hk
      have hj : j < bds.length := by
        rcases hk with ⟨_, h⟩ | ⟨n, hn, _⟩
        · omega
        · have := (List.getElem?_eq_some_iff.1 hn).1; simp [counts] at this; omega
      have hn : (counts bds)[j]? = some bds[j].ss.length := by simp [counts, hj]
      have h1 := ihj bds[j].ss.length (.inr ⟨_, hn, Nat.le_refl _⟩)
      rw [Nat.add_zero, off_succ hn]
      refine half_row h1 fun bd hb => ?_
      have := ((eAt_ok (style := style) hl h (offL (counts bds) j + bds[j].ss.length)).bds.2 j bd hb).2
      rw [hn] at this
      injection this with this
      omega
    | succ k ih =>
      intro hk
      rcases hk with ⟨h0, _⟩ | ⟨n, hn, hk⟩
      · omega
      · rw [eAt_next hn (by omega)]
        obtain ⟨bd, s, hb, hs, _, _⟩ := (eAt_ok (style := style) hl h (offL (counts bds) (j + 1) + k)).bds.at hn (show k < n by omega)
        exact half_step hc (ih (.inr ⟨n, hn, by omega⟩)) hb hs
theorem eAt_all {style : Int} {count layer : Nat} {bds : List Bd} : eAt style count layer bds (offL (counts bds) bds.length) = encAll style count layer bds := by
  unfold eAt encAll
  rw [List.take_of_length_le (by rw [spots_length]; simp [counts])]
theorem planted_length {count : Nat} {bds : List Bd} (h : ∀ bd ∈ bds, BdOk bd) : (planted count bds).length = bds.length := by
  have := (plantN_ok (count := count) (spotsL (counts bds) 0) (BdsOk.self h)).1
  have e : (counts bds).length = bds.length := by simp [counts]
  rw [e] at this
  exact this
theorem moreAt_not {count layer : Nat} {bds : List Bd} (h : anyMore count layer bds = false) {bd : Bd} {s : Bs} (hb : bd ∈ bds) (hs : s ∈ bd.ss) : passesF s.b.ps.length count (layer + 1) ≤ s.said := by
  obtain ⟨j, hj, rfl⟩ := List.getElem_of_mem hb
  obtain ⟨k, hk, rfl⟩ := List.getElem_of_mem hs
  have hn : (counts bds)[j]? = some bds[j].ss.length := by simp [counts, hj]
  have hm := spots_all hn hk
  unfold anyMore at h
  rw [List.any_eq_false] at h
  have := h _ hm
  unfold moreAt at this
  rw [List.getElem?_eq_getElem hj] at this
  dsimp only at this
  rw [List.getElem?_eq_getElem hk] at this
  simpa using this
theorem LOk.next {style : Int} {count layer : Nat} {bds : List Bd} (hc : 1 ≤ count) (hl : layer ≤ 100) (h : LOk count layer bds) : LOk count (layer + 1) (encF style count layer bds).bds ∧ counts (encF style count layer bds).bds = counts bds := by
  have hco : ∀ {bs : List Bd}, BdsOk (counts bds) bs → counts bs = counts bds := by
    intro bs hb
    apply List.ext_getElem?
    intro j
    by_cases hj : j < bs.length
    · rw [(hb.2 j bs[j] (List.getElem?_eq_getElem hj)).2]
      simp [counts, hj]
    · have := hb.1
      rw [List.getElem?_eq_none (by simp [counts]; omega), List.getElem?_eq_none (by omega)]
  unfold encF
  split
  · have he := eAt_ok (style := style) hl h (offL (counts bds) bds.length)
    have hh := eAt_half (style := style) hc hl h bds.length 0 (.inl ⟨rfl, Nat.le_refl _⟩)
    rw [Nat.add_zero, eAt_all] at hh
    rw [eAt_all] at he
    have hlen := he.bds.1
    refine ⟨⟨fun bd hb => ?_, half_end hh (by rw [hlen]; simp [counts])⟩, hco he.bds⟩
    obtain ⟨j, hj, rfl⟩ := List.getElem_of_mem hb
    exact (he.bds.2 j _ (List.getElem?_eq_getElem hj)).1
  · rename_i hm
    have hm' : anyMore count layer bds = false := by simpa using hm
    have hp := planted_ok (count := count) h.ok
    refine ⟨⟨fun bd hb => ?_, fun bd hb s hs => ?_⟩, hco hp.bds⟩
    · obtain ⟨j, hj, rfl⟩ := List.getElem_of_mem hb
      exact (hp.bds.2 j _ (List.getElem?_eq_getElem hj)).1
    · have h1 := (SaidAt.planted h.said) bd hb s hs
      dsimp only at hb
      obtain ⟨j, hj, rfl⟩ := List.getElem_of_mem hb
      obtain ⟨bd0, h3, h4, _⟩ := plantN_get _ (List.getElem?_eq_getElem hj)
      rw [h4] at hs
      have h2 := moreAt_not hm' (List.mem_of_getElem? h3) hs
      have := passesF_mono (n := s.b.ps.length) (l := layer) hc
      omega
structure RdOk (bd : Bd) : Prop where
  first : TOk bd.sh bd.first
  zeros : TOk bd.sh bd.zeros
  pl : ∀ s ∈ bd.ss, s.b.pl ≤ bd.planes
theorem RdOk.plant {count : Nat} {bd : Bd} (hB : BdOk bd) (h : RdOk bd) : RdOk (plantF count bd) := by
  unfold plantF
  split
  · exact h
  · refine ⟨TOk.mins hB.fine.1 (leaves_head hB (by simp [firstNums])) ?_, TOk.mins hB.fine.1 (leaves_head hB (by simp [zeroNums])) ?_, h.pl⟩
    · intro x hx; simp only [firstNums, List.mem_map] at hx; obtain ⟨s, _, rfl⟩ := hx; omega
    · intro x hx; simp only [zeroNums, List.mem_map] at hx; obtain ⟨s, _, rfl⟩ := hx; omega
theorem zlF_ok {sh : List (Nat × Nat)} {k : Nat} {s0 : Nat × Nat} (h0 : sh[0]? = some s0) (hk : k < s0.1 * s0.2) : ∀ (f n : Nat) (T : List Nd), TOk sh T → TOk sh (zlF sh k f n T).2 := by
  intro f
  induction f with
  | zero => intro n T h; exact h
  | succ f ih => intro n T h; simp only [zlF]; exact ih _ _ (h.enc h0 hk _).2
theorem RdOk.step {style : Int} {count layer : Nat} {bd : Bd} {k : Nat} {s : Bs} (hB : BdOk bd) (h : RdOk bd) (hs : bd.ss[k]? = some s) : RdOk (stepF style count layer bd k s) := by
  have hk := (List.getElem?_eq_some_iff.1 hs).1
  obtain ⟨s0, h0, he⟩ := leaf0 hB.leaves (by omega : 0 < bd.ss.length)
  have h1 : TOk bd.sh (head1 layer (toOf count layer s) bd k s).2 := by
    unfold head1; split
    · exact (h.first.enc h0 (by omega) _).2
    · exact h.first
  have h2 : TOk bd.sh (head2 bd k s).2 := by
    unfold head2; split
    · exact zlF_ok h0 (by omega) _ _ _ h.zeros
    · exact h.zeros
  refine ⟨?_, ?_, ?_⟩
  · show TOk bd.sh (headF style layer (toOf count layer s) bd k s).first
    rw [headF_first]; exact h1
  · show TOk bd.sh (headF style layer (toOf count layer s) bd k s).zeros
    unfold headF; split
    · exact h.zeros
    · exact h2
  · intro x hx
    rcases List.mem_or_eq_of_mem_set hx with hx | rfl
    · exact h.pl x hx
    · exact h.pl s (List.mem_of_getElem? hs)
theorem eAt_rd {style : Int} {count layer : Nat} {bds : List Bd} (hl : layer ≤ 100) (h : LOk count layer bds) (hr : ∀ bd ∈ bds, RdOk bd) : ∀ (i : Nat), ∀ bd ∈ (eAt style count layer bds i).bds, RdOk bd := by
  intro i
  induction i with
  | zero =>
    intro bd hb
    have e : (eAt style count layer bds 0).bds = planted count bds := rfl
    rw [e] at hb
    obtain ⟨j, hj, rfl⟩ := List.getElem_of_mem hb
    obtain ⟨bd0, h1, _, h3⟩ := plantN_get _ (List.getElem?_eq_getElem hj)
    have h0 := List.mem_of_getElem? h1
    rcases h3 with h3 | h3
    · rw [h3]; exact hr bd0 h0
    · rw [h3]; exact (hr bd0 h0).plant (h.ok bd0 h0)
  | succ i ih =>
    intro bd hb
    by_cases hi : i < (spotsL (counts bds) 0).length
    · have hx : (spotsL (counts bds) 0)[i]? = some (spotsL (counts bds) 0)[i] := List.getElem?_eq_getElem hi
      have e : eAt style count layer bds (i + 1) = encStep style count layer (eAt style count layer bds i) (spotsL (counts bds) 0)[i] := by
        unfold eAt; rw [foldl_take hx]
      rw [e] at hb
      generalize (spotsL (counts bds) 0)[i] = x at hb
      unfold encStep at hb
      split at hb
      · rename_i b0 h0
        split at hb
        · rename_i s0 hs0
          rcases List.mem_or_eq_of_mem_set hb with hb | rfl
          · exact ih bd hb
          · exact (ih b0 (List.mem_of_getElem? h0)).step ((eAt_ok hl h i).bds.2 _ _ h0).1 hs0
        · exact ih bd hb
      · exact ih bd hb
    · have e : eAt style count layer bds (i + 1) = eAt style count layer bds i := by
        unfold eAt; rw [List.take_of_length_le (by omega), List.take_of_length_le (by omega)]
      rw [e] at hb
      exact ih bd hb
theorem encF_rd {style : Int} {count layer : Nat} {bds : List Bd} (hl : layer ≤ 100) (h : LOk count layer bds) (hr : ∀ bd ∈ bds, RdOk bd) : ∀ bd ∈ (encF style count layer bds).bds, RdOk bd := by
  unfold encF
  split
  · rw [← eAt_all]; exact eAt_rd hl h hr _
  · exact eAt_rd (style := style) hl h hr 0
theorem lg_shift {q m : Nat} : (0 < (q : Int) / 2 ^ m) ↔ 0 < q ∧ m ≤ lg (q : Int) := by
  unfold lg
  rw [Int.toNat_natCast]
  have e : (q : Int) / 2 ^ m = ((q / 2 ^ m : Nat) : Int) := by simp
  rw [e]
  by_cases hn : q = 0
  · subst hn; simp
  · rw [Nat.le_log2 hn]
    constructor
    · intro h
      refine ⟨by omega, ?_⟩
      by_cases hc : 2 ^ m ≤ q
      · exact hc
      · rw [Nat.div_eq_of_lt (by omega)] at h; simp at h
    · intro h
      have : 0 < q / 2 ^ m := Nat.div_pos h.2 (Nat.two_pow_pos _)
      omega
theorem lg_le6 {p : Nat} (h : p ≤ 127) : lg (p : Int) ≤ 6 := by
  unfold lg
  rw [Int.toNat_natCast]
  by_cases h0 : p = 0
  · subst h0; simp
  · have := (Nat.log2_lt h0).2 (show p < 2 ^ 7 by omega)
    omega
theorem mins_noughts : ∀ (sh : List (Nat × Nat)) (n : Nat), Halves sh → (∀ s, sh.head? = some s → n = s.1 * s.2) → mins sh (noughts n) = noughts (total sh) := by
  intro sh
  induction sh with
  | nil => intro n _ _; rfl
  | cons s sh ih =>
    intro n hH hn
    have hn' := hn s rfl
    have hpos := hH.pos
    have hu : up1 s.1 s.2 (noughts n) = noughts ((s.1 + 1) / 2 * ((s.2 + 1) / 2)) := by
      have hl : (noughts n).length = s.1 * s.2 := by simp [noughts, hn']
      have h1 := up1_nonneg (w := s.1) (h := s.2) (l := noughts n) (by intro x hx; simp [noughts] at hx; omega) hpos.1 hpos.2 hl
      refine List.ext_getElem? fun i => ?_
      by_cases hi : i < (s.1 + 1) / 2 * ((s.2 + 1) / 2)
      · have hlen := up1_length s.1 s.2 (noughts n)
        rw [List.getElem?_eq_getElem (by omega)]
        have h0 := h1 _ (List.getElem_mem (show i < (up1 s.1 s.2 (noughts n)).length by omega))
        have hle : (up1 s.1 s.2 (noughts n))[i]'(by omega) ≤ 0 := by
          simp only [up1, List.getElem_map, List.getElem_range]
          have h2 : i % ((s.1 + 1) / 2) < (s.1 + 1) / 2 := Nat.mod_lt _ (by omega)
          have h3 : i / ((s.1 + 1) / 2) < (s.2 + 1) / 2 := Nat.div_lt_of_lt_mul hi
          obtain ⟨dx, dy, _, _, _, _, e⟩ := (leastOf_spec (w := s.1) (h := s.2) (l := noughts n) (x := i % ((s.1 + 1) / 2)) (y := i / ((s.1 + 1) / 2)) (by omega) (by omega)).2
          rw [e, List.getD_eq_getElem?_getD]
          cases hx : (noughts n)[(2 * (i / ((s.1 + 1) / 2)) + dy) * s.1 + (2 * (i % ((s.1 + 1) / 2)) + dx)]? with
          | none => simp
          | some y =>
            have := List.mem_of_getElem? hx
            simp [noughts] at this
            simp [this.2]
        have h9 : (noughts ((s.1 + 1) / 2 * ((s.2 + 1) / 2)))[i]? = some 0 := by simp [noughts, hi]
        rw [h9]
        congr 1
        omega
      · rw [List.getElem?_eq_none (by rw [up1_length]; omega), List.getElem?_eq_none (by simp [noughts]; omega)]
    simp only [mins, total]
    rw [hu, ih _ hH.tail ?_]
    · rw [hn']; simp [noughts]
    · intro s' hs'
      cases sh with
      | nil => simp at hs'
      | cons s2 sh2 =>
        simp at hs'; subst hs'
        obtain ⟨_, _, h1, h2, _⟩ := hH
        rw [h1, h2]
def unsay (s : Bs) : Bs := { s with said := 0 }
def us (ss : List Bs) : List Bs := ss.map unsay
theorem us_length (ss : List Bs) : (us ss).length = ss.length := by simp [us]
theorem us_get {ss : List Bs} {k : Nat} {s : Bs} (h : ss[k]? = some s) : (us ss)[k]? = some (unsay s) := by simp [us, h]
theorem us_set (ss : List Bs) (k : Nat) (s : Bs) : (us ss).set k (unsay s) = us (ss.set k s) := by simp [us, List.map_set]
theorem mins_take {sh : List (Nat × Nat)} {nums : List Int} (hn : nums.length = leavesOf sh) : (mins sh nums).take nums.length = nums := by
  cases sh with
  | nil =>
    have : nums = [] := List.eq_nil_of_length_eq_zero hn
    subst this; rfl
  | cons s sh => simp only [mins]; rw [List.take_append_of_le_length (Nat.le_refl _), List.take_length]
theorem shape_nil {sh : List (Nat × Nat)} (hH : Halves sh) (h : leavesOf sh = 0) : sh = [] := by
  cases sh with
  | nil => rfl
  | cons s sh =>
    have hp := hH.pos
    have h2 : s.1 * s.2 = 0 := h
    have := Nat.mul_pos hp.1 hp.2
    omega
theorem plant_empty {count : Nat} {bd : Bd} (hB : BdOk bd) (h : bd.ss = []) : (plantF count bd).first = bd.first ∧ (plantF count bd).zeros = bd.zeros := by
  have hs := shape_nil hB.fine.1 (by rw [hB.leaves, h]; rfl)
  have h1 := hB.fl
  have h2 := hB.zl
  have hP := plantF_ok (count := count) hB
  have h3 := hP.fl
  have h4 := hP.zl
  rw [plantF_sh] at h3 h4
  rw [hs] at h1 h2 h3 h4
  simp only [total] at h1 h2 h3 h4
  rw [List.eq_nil_of_length_eq_zero h1, List.eq_nil_of_length_eq_zero h2, List.eq_nil_of_length_eq_zero h3, List.eq_nil_of_length_eq_zero h4]
  exact ⟨rfl, rfl⟩
theorem planted_get {count : Nat} {bds : List Bd} {j : Nat} {bd : Bd} (hj : bds[j]? = some bd) (hne : bd.ss ≠ []) {bd' : Bd} (h : (planted count bds)[j]? = some bd') : bd' = plantF count bd := by
  have hn : (counts bds)[j]? = some bd.ss.length := by simp [counts, hj]
  have hs := plantN_set (k := 0) _ (spots_all hn (List.length_pos_iff.2 hne)) h
  obtain ⟨b0, h1, _, h3⟩ := plantN_get _ h
  rw [hj] at h1
  injection h1 with h1; subst h1
  rcases h3 with h3 | h3
  · rw [h3]
    rw [h3] at hs
    unfold plantF
    rw [if_pos hs]
  · exact h3
theorem mk0_noughts (n : Nat) : mk0 (noughts n) = List.replicate n ⟨0, 0, false⟩ := by simp [mk0, noughts]
theorem new_first {w h : Nat} (hw : w ≤ 30) (hh : h ≤ 30) : List.replicate (total (tshape w h)) (⟨0, 0, false⟩ : Nd) = mk0 (mins (tshape w h) (noughts (w * h))) := by
  rw [mins_noughts, mk0_noughts]
  · exact tshape_halves w h
  · intro s hs
    unfold tshape at hs
    split at hs
    · simp at hs
    · rename_i h0
      obtain ⟨f, hf⟩ : ∃ f, w + h = f + 1 := ⟨w + h - 1, by omega⟩
      rw [hf] at hs
      simp [shp] at hs
      subst hs; rfl
theorem leaves_new {w h : Nat} (hw : w ≤ 30) (hh : h ≤ 30) : leavesOf (tshape w h) = w * h := by
  have hm : w * h ≤ 30 * 30 := Nat.mul_le_mul hw hh
  by_cases h0 : ((w * h : Nat) : Int) = 0
  · rw [tshape_nil (by omega) h0]
    show 0 = w * h
    omega
  · exact leaves_tshape (by omega) h0
theorem newBd_ok {planes : Int} {w h : Nat} (hw : w ≤ 30) (hh : h ≤ 30) (h0 : 0 ≤ planes) (h1 : planes ≤ 1000) : BdOk (newBd planes w h) := by
  have hf := new_first hw hh
  refine ⟨h0, h1, tshape_fine hw hh, tshape_ends w h, ?_, by simp [newBd], by simp [newBd], ?_, fun _ => ?_⟩
  · show leavesOf (tshape w h) = (List.replicate (w * h) (⟨noBk, 0, 3⟩ : Bs)).length
    rw [leaves_new hw hh]; simp
  · intro s hs
    simp only [newBd, List.mem_replicate] at hs
    obtain ⟨_, rfl⟩ := hs
    exact ⟨⟨by simp [noBk], by simp [noBk], by simp [noBk], by intro x hx; simp [noBk, endsOf] at hx, by intro i j _ hj; simp [noBk] at hj, by intro i hi; simp [noBk] at hi, by simp [noBk], by intro x hx; simp [noBk] at hx⟩, by simp, by simp⟩
  · simp only [newBd, List.length_replicate]
    exact ⟨hf, hf⟩
theorem newBd_rd {planes : Int} {w h : Nat} (hw : w ≤ 30) (hh : h ≤ 30) (h0 : 0 ≤ planes) : RdOk (newBd planes w h) := by
  have hl : ∀ s, (tshape w h).head? = some s → (noughts (w * h)).length = s.1 * s.2 := by
    intro s hs
    have := leaves_new hw hh
    unfold leavesOf at this
    rw [hs] at this
    simp [noughts, ← this]
  have ht : TOk (tshape w h) (List.replicate (total (tshape w h)) ⟨0, 0, false⟩) := by
    rw [new_first hw hh]
    exact TOk.mins (tshape_halves w h) hl (by intro x hx; simp [noughts] at hx; omega)
  refine ⟨ht, ht, ?_⟩
  intro s hs
  simp only [newBd, List.mem_replicate] at hs
  obtain ⟨_, rfl⟩ := hs
  exact h0
theorem first_noughts {bd : Bd} (hB : BdOk bd) (h : bd.ss ≠ [] → bd.set = false) : bd.first = mk0 (mins bd.sh (noughts bd.ss.length)) ∧ bd.zeros = mk0 (mins bd.sh (noughts bd.ss.length)) := by
  by_cases hn : bd.ss = []
  · have hs := shape_nil hB.fine.1 (by rw [hB.leaves, hn]; rfl)
    have h1 := hB.fl
    have h2 := hB.zl
    rw [hs] at h1 h2
    rw [hs, List.eq_nil_of_length_eq_zero h1, List.eq_nil_of_length_eq_zero h2]
    exact ⟨rfl, rfl⟩
  · exact hB.none (h hn)
theorem needF_take_le {i p : Nat} {q : Int} {sg : List (Nat × Int)} (lb : Nat) (h : sg[i]? = some (p, q)) : needF lb (sg.take i) ≤ needF lb (sg.take (i + 1)) := by
  rw [needF_next h]; split <;> omega
theorem needF_take_le2 (lb : Nat) (sg : List (Nat × Int)) (i : Nat) : needF lb (sg.take i) ≤ needF lb sg := by
  conv => rhs; rw [← List.take_append_drop i sg]
  unfold needF
  rw [List.foldl_append]
  exact needF_ge _ _
theorem needF_shift {lb i p q L : Nat} {sg : List (Nat × Int)} (h : sg[i]? = some (p, (q : Int))) (hL : needF lb (sg.take i) ≤ L) (hL2 : L ≤ needF lb (sg.take (i + 1))) :
    (0 < (q : Int) / 2 ^ (L + lg (p : Int))) ↔ L < needF lb (sg.take (i + 1)) := by
  rw [lg_shift, needF_next h]
  rw [needF_next h] at hL2
  by_cases hq : 0 < q
  · rw [if_pos (by omega)] at hL2 ⊢
    constructor
    · intro h; omega
    · intro h; omega
  · rw [if_neg (by omega)] at hL2 ⊢
    constructor
    · intro h; omega
    · intro h; omega
theorem planted_first {count : Nat} {bd : Bd} (hB : BdOk bd) (h : bd.ss ≠ [] → bd.set = false) : (plantF count bd).first = mk0 (mins bd.sh (firstNums count bd)) ∧ (plantF count bd).zeros = mk0 (mins bd.sh (zeroNums bd)) := by
  cases hs : bd.set with
  | false => rw [show plantF count bd = { bd with set := true, first := mk0 (mins bd.sh (firstNums count bd)), zeros := mk0 (mins bd.sh (zeroNums bd)) } from if_neg (by rw [hs]; simp)]; exact ⟨rfl, rfl⟩
  | true =>
    have hne : bd.ss = [] := by
      by_cases hn : bd.ss = []
      · exact hn
      · rw [h hn] at hs; simp at hs
    obtain ⟨e1, e2⟩ := plant_empty (count := count) hB hne
    have hsh := shape_nil hB.fine.1 (by rw [hB.leaves, hne]; rfl)
    have h1 := hB.fl
    have h2 := hB.zl
    rw [hsh] at h1 h2
    rw [e1, e2, hsh, List.eq_nil_of_length_eq_zero h1, List.eq_nil_of_length_eq_zero h2]
    exact ⟨rfl, rfl⟩
theorem mix_put (count : Nat) {bds : List Bd} {j : Nat} {bd : Bd} (h : bds[j]? = some bd) :
    ((bds.take j).map (plantF count) ++ bds.drop j).set j (plantF count bd) = (bds.take (j + 1)).map (plantF count) ++ bds.drop (j + 1) := by
  have hj := (List.getElem?_eq_some_iff.1 h).1
  rw [take_next h, List.map_append, List.append_assoc, List.set_append_right _ _ (by simp; omega)]
  congr 1
  have e : j - ((bds.take j).map (plantF count)).length = 0 := by simp; omega
  rw [e, List.drop_eq_getElem_cons hj]
  obtain ⟨_, rfl⟩ := List.getElem?_eq_some_iff.1 h
  rfl
end Go.Eng
