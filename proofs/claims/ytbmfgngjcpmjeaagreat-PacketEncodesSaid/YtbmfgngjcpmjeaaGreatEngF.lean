/- The engine: effects that may come in any order. -/
import Derived.Test.YtbmfgngjcpmjeaaGreatEngE
/- The engine, part 14: effects that may come in any order, and give the same. -/
set_option linter.unusedVariables false
set_option linter.unusedSimpArgs false
namespace Go.Eng
open Go
theorem beq_ne {a b : Nat} (h : a ≠ b) : Nat.beq a b = false := by
  cases h' : Nat.beq a b
  · rfl
  · exact absurd (Nat.eq_of_beq_eq_true h') h
theorem look_perm {base : Env} {l : List (Nat × Value)} : ∀ {a b : List (Nat × Value)}, a.Perm b → (a.map (·.1)).Nodup → look (a ++ l) base = look (b ++ l) base := by
  intro a b h
  induction h with
  | nil => intro _; rfl
  | cons x h ih =>
    intro hn
    rw [List.map_cons, List.nodup_cons] at hn
    obtain ⟨j, v⟩ := x
    show (fun i => bif Nat.beq j i then v else look (_ ++ l) base i) = (fun i => bif Nat.beq j i then v else look (_ ++ l) base i)
    rw [ih hn.2]
  | swap x y t =>
    intro hn
    obtain ⟨i, v⟩ := x
    obtain ⟨j, u⟩ := y
    simp only [List.map_cons, List.nodup_cons, List.mem_cons, not_or] at hn
    have hij : j ≠ i := hn.1.1
    funext m
    show (bif Nat.beq j m then u else bif Nat.beq i m then v else look (t ++ l) base m) = (bif Nat.beq i m then v else bif Nat.beq j m then u else look (t ++ l) base m)
    by_cases h1 : j = m
    · subst h1
      have : Nat.beq i j = false := beq_ne fun h => hij h.symm
      rw [this]; rfl
    · have : Nat.beq j m = false := beq_ne h1
      rw [this]; rfl
  | trans h1 h2 ih1 ih2 =>
    intro hn
    rw [ih1 hn, ih2 (((h1.map _).nodup_iff).1 hn)]
def dstD (ops : Array Oper) (i : Nat) : Nat := ((dstAt ops i).getD 0)
def freeOk (ops : Array Oper) : Nat → List Nat → List Nat → Bool
  | 0, E, _ => E.isEmpty
  | f + 1, E, rem => E.isEmpty || (enabledL ops rem == E && !rem.isEmpty && E.all fun i => freeOk ops f (without E i) (without rem i))
def freeAt (ops : Array Oper) (E : List Nat) (i : Nat) : Bool :=
  match ops[i]? with
  | none => false
  | some o => o.dst.isSome && o.guard.isNone && opSup o.op && (readsOf ops o).all fun t => !(E.map (dstD ops)).contains t
def freeAll (ops : Array Oper) (E rem : List Nat) : Bool := decide E.Nodup && decide (E.map (dstD ops)).Nodup && E.all (freeAt ops E) && freeOk ops E.length E rem
def FreeE (P : Program) (ops : Array Oper) (i : Nat) (env : Env) (R : Value → List SL → Prop) : Prop :=
  ∃ o, nthO ops.toList i = some o ∧ ∀ (L : List SL) (K : Value → List SL → Prop), (∀ v X, R v X → K v (X ++ L)) → EffT P o.op o.type env L K
section
variable {P : Program} {b : Fr} {n : Nat} {G : FGoal} {k : List Item} {l : List (Nat × Value)} {base : Env} {ds : List Nat} {L : List SL} {ops : Array Oper}
theorem free_go {E0 : List Nat} {rem : List Nat} (hn : E0.Nodup) (hd : (E0.map (dstD ops)).Nodup) (hat : ∀ i ∈ E0, freeAt ops E0 i = true) (R : Nat → Value → List SL → Prop)
    (hs : ∀ i ∈ E0, FreeE P ops i (look l base) (R i))
    (hk : ∀ (vs : Nat → Value) (Xs : Nat → List SL), (∀ i ∈ E0, R i (vs i) (Xs i)) → TrW P b n G ops [] (rem.filter fun j => !E0.contains j) k (look (E0.map (fun i => (dstD ops i, vs i)) ++ l) base) ds (E0.flatMap Xs ++ L)) :
    ∀ (f : Nat) (E D rem' : List Nat), (D ++ E).Perm E0 → rem' = rem.filter (fun j => !D.contains j) → freeOk ops f E rem' = true → ∀ (vs : Nat → Value) (Xs : Nat → List SL), (∀ i ∈ D, R i (vs i) (Xs i)) →
      TrW P b n G ops [] rem' k (look (D.map (fun i => (dstD ops i, vs i)) ++ l) base) ds (D.flatMap Xs ++ L) := by
  intro f
  have fin : ∀ (D rem' : List Nat), D.Perm E0 → rem' = rem.filter (fun j => !D.contains j) → ∀ (vs : Nat → Value) (Xs : Nat → List SL), (∀ i ∈ D, R i (vs i) (Xs i)) →
      TrW P b n G ops [] rem' k (look (D.map (fun i => (dstD ops i, vs i)) ++ l) base) ds (D.flatMap Xs ++ L) := by
    intro D rem' hp hr vs Xs hR
    have h1 := hk vs Xs (fun i hi => hR i (hp.mem_iff.2 hi))
    have e1 : rem' = rem.filter (fun j => !E0.contains j) := by
      rw [hr]
      congr 1
      funext j
      congr 1
      rw [Bool.eq_iff_iff, List.contains_iff_mem, List.contains_iff_mem]
      exact hp.mem_iff
    have e2 : look (D.map (fun i => (dstD ops i, vs i)) ++ l) base = look (E0.map (fun i => (dstD ops i, vs i)) ++ l) base := by
      refine look_perm (hp.map _) ?_
      rw [List.map_map]
      exact ((hp.map _).nodup_iff).2 hd
    rw [e1, e2]
    intro F w hw hI
    exact h1 F w (hw.perm ((hp.flatMap_right _).append_right L)) hI
  induction f with
  | zero =>
    intro E D rem' hp hr hok vs Xs hR
    simp only [freeOk, List.isEmpty_iff] at hok
    subst hok
    rw [List.append_nil] at hp
    exact fin D rem' hp hr vs Xs hR
  | succ f ih =>
    intro E D rem' hp hr hok vs Xs hR
    simp only [freeOk, Bool.or_eq_true, List.isEmpty_iff, Bool.and_eq_true, beq_iff_eq, Bool.not_eq_true', List.isEmpty_eq_false_iff, List.all_eq_true] at hok
    rcases hok with hok | ⟨⟨hE, hne⟩, hall⟩
    · subst hok
      rw [List.append_nil] at hp
      exact fin D rem' hp hr vs Xs hR
    · intro F w hw hI
      refine AnyW.branch hne fun i hi he => ?_
      have hiE : i ∈ E := by rw [← hE]; exact List.mem_filter.2 ⟨hi, he⟩
      have hi0 : i ∈ E0 := hp.mem_iff.1 (List.mem_append.2 (.inr hiE))
      have hDE : (D ++ E).Nodup := (hp.nodup_iff).2 hn
      have hiD : i ∉ D := fun h => (List.nodup_append.1 hDE).2.2 i h i hiE rfl
      obtain ⟨o, ho, hspec⟩ := hs i hi0
      have hf := hat i hi0
      have hoa := at_of_nthO ho
      unfold freeAt at hf
      rw [hoa] at hf
      simp only [Bool.and_eq_true, List.all_eq_true, Option.isNone_iff_eq_none] at hf
      obtain ⟨⟨⟨h1, h2⟩, h3⟩, h4⟩ := hf
      obtain ⟨d, hd1⟩ := Option.isSome_iff_exists.1 h1
      have hdd : dstD ops i = d := by unfold dstD dstAt; rw [hoa]; simp [hd1]
      unfold StepOp
      rw [hoa]
      dsimp only
      rw [if_pos (guardOk_none h2)]
      unfold OpWp
      have henv : ∀ t ∈ readsOf ops o, look (D.map (fun i => (dstD ops i, vs i)) ++ l) base t = look l base t := by
        intro t ht
        have h5 := h4 t ht
        simp only [Bool.not_eq_true', List.contains_eq_mem, decide_eq_false_iff_not] at h5
        have : ∀ D' : List Nat, (∀ x ∈ D', x ∈ E0) → look (D'.map (fun i => (dstD ops i, vs i)) ++ l) base t = look l base t := by
          intro D'
          induction D' with
          | nil => intro _; rfl
          | cons x D' ih2 =>
            intro hx
            show (bif Nat.beq (dstD ops x) t then vs x else look (D'.map _ ++ l) base t) = _
            have : Nat.beq (dstD ops x) t = false := by
              refine beq_ne ?_
              rintro rfl
              exact h5 (List.mem_map.2 ⟨x, hx x (List.mem_cons_self ..), rfl⟩)
            rw [this]
            exact ih2 fun y hy => hx y (List.mem_cons_of_mem _ hy)
        exact this D fun x hx => hp.mem_iff.1 (List.mem_append.2 (.inl hx))
      rw [exec_congr h3 henv, execOp_U]
      refine NextWp.mono ?_ (hspec (D.flatMap Xs ++ L) (fun v L' => ∃ X, R i v X ∧ L' = X ++ (D.flatMap Xs ++ L)) (fun v X hRX => ⟨X, hRX, rfl⟩) F w hw)
      rintro v w' ⟨hg, L', ⟨X, hRX, rfl⟩, hL⟩
      refine ⟨hg, fun y hy => (by cases hy), ?_⟩
      have hp' : ((i :: D) ++ without E i).Perm E0 := by
        have hEn : E.Nodup := (List.nodup_append.1 hDE).2.1
        have e3 : without E i = E.erase i := by
          rw [hEn.erase_eq_filter]
          unfold without
          congr 1
        rw [e3]
        refine List.Perm.trans ?_ hp
        refine List.Perm.trans (List.perm_middle (l₁ := D)).symm ?_
        exact (List.perm_cons_erase hiE).symm.append_left D
      have hr' : without rem' i = rem.filter (fun j => !(i :: D).contains j) := by
        rw [hr]
        unfold without
        rw [List.filter_filter]
        congr 1
        funext j
        rw [Bool.eq_iff_iff]
        simp
      have hmap : ∀ D' : List Nat, i ∉ D' → D'.map (fun j => (dstD ops j, (fun j => if j = i then v else vs j) j)) = D'.map (fun j => (dstD ops j, vs j)) := by
        intro D' hD'
        refine List.map_congr_left fun j hj => ?_
        have : j ≠ i := fun h => hD' (h ▸ hj)
        simp [this]
      have hfl : ∀ D' : List Nat, i ∉ D' → D'.flatMap (fun j => if j = i then X else Xs j) = D'.flatMap Xs := by
        intro D' hD'
        induction D' with
        | nil => rfl
        | cons y D' ih3 =>
          rw [List.mem_cons, not_or] at hD'
          rw [List.flatMap_cons, List.flatMap_cons, ih3 hD'.2]
          have : y ≠ i := fun h => hD'.1 h.symm
          simp [this]
      have hnext := ih (without E i) (i :: D) (without rem' i) hp' hr' (hall i hiE) (fun j => if j = i then v else vs j) (fun j => if j = i then X else Xs j) (by
        intro j hj
        rcases List.mem_cons.1 hj with rfl | hj
        · simpa using hRX
        · have : j ≠ i := fun h => hiD (h ▸ hj)
          simpa [this] using hR j hj)
      rw [List.map_cons, List.flatMap_cons, hmap D hiD, hfl D hiD] at hnext
      have e5 : (if i = i then X else Xs i) = X := if_pos rfl
      rw [e5, List.append_assoc] at hnext
      have e6 : updO (look (D.map (fun i => (dstD ops i, vs i)) ++ l) base) o.dst v = look ((dstD ops i, if i = i then v else vs i) :: D.map (fun j => (dstD ops j, vs j)) ++ l) base := by
        rw [hd1, hdd, if_pos rfl]
        rfl
      rw [e6]
      exact hnext F w' hL (fun y hy => by cases hy)
theorem trw_free (E0 : List Nat) {rem rem' : List Nat} (R : Nat → Value → List SL → Prop) (hc : freeAll ops E0 rem = true) (hr : (rem.filter fun j => !E0.contains j) = rem') (hs : allOf (fun i => FreeE P ops i (look l base) (R i)) E0)
    (lst : (Nat → Value) → List (Nat × Value)) (hl : ∀ vs, E0.map (fun i => (dstD ops i, vs i)) = lst vs)
    (hk : ∀ (vs : Nat → Value) (Xs : Nat → List SL), allOf (fun i => R i (vs i) (Xs i)) E0 → TrW P b n G ops [] rem' k (look (lst vs ++ l) base) ds (E0.flatMap Xs ++ L)) : TrW P b n G ops [] rem k (look l base) ds L := by
  unfold freeAll at hc
  simp only [Bool.and_eq_true, decide_eq_true_eq, List.all_eq_true] at hc
  obtain ⟨⟨⟨h1, h2⟩, h3⟩, h4⟩ := hc
  have all_of : ∀ (p : Nat → Prop) (E : List Nat), (∀ i ∈ E, p i) → allOf p E := by
    intro p E
    induction E with
    | nil => intro _; trivial
    | cons i E ih =>
      intro h
      cases E with
      | nil => exact h i (List.mem_cons_self ..)
      | cons j E => exact ⟨h i (List.mem_cons_self ..), ih fun x hx => h x (List.mem_cons_of_mem _ hx)⟩
  have := free_go h1 h2 h3 R (fun i hi => allOf_mem hs i hi) (fun vs Xs h => by rw [hr, hl]; exact hk vs Xs (all_of _ _ h)) E0.length E0 [] rem (List.Perm.refl _) (List.filter_eq_self.2 (fun _ _ => rfl)).symm h4 (fun _ => undef) (fun _ => []) (fun i hi => by cases hi)
  exact this
end
end Go.Eng
