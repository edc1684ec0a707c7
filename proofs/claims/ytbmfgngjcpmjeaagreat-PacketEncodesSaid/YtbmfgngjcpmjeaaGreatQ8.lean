/- Contracts of functions that the law reaches, in every memory (part Q8). -/
import Derived.Test.YtbmfgngjcpmjeaaGreatQ7
set_option linter.unusedVariables false
set_option linter.unusedSimpArgs false
set_option maxRecDepth 10000
namespace Go.Proofs
open Go.Eng Tryz
theorem k_zero' {g : Cg} {c : Cd} {n x y : Nat} (hg : GOk g) (hf : Fit g c n) (hx : x < g.w) (hy : y < g.h) :
    Spec Tryz.prog 121 [g.p, .int .i64 (x : Nat), .int .i64 (y : Nat)] [CD g c] (fun _ : Unit => ⟨.int .i64 (((ctxZ c x y).toNat : Nat) : Int), True, [CD g c]⟩) :=
  Spec.mono (k_zero hg hf hx hy) fun u h => ⟨(), by show Value.int .i64 _ = Value.int .i64 _; have := ctxZ_ok c x y; congr 1; omega, h, fun _ _ h => h⟩
theorem colF_step {c : Cd} (hc : CdOk c) {x y plane j : Nat} (hj : j < 4) (hy : y + j < c.h) : colF x y plane c j = colF x y plane (colStep x y plane c j) (j + 1) := by
  have h1 : (colStep x y plane c j).h = c.h := (colStep_adv hc x y plane j).h
  unfold colF
  rw [h1, show min 4 (c.h - y) - j = (min 4 (c.h - y) - (j + 1)) + 1 by omega, List.range'_succ]
  rfl
theorem colF_end {c : Cd} {x y plane j : Nat} (h : ¬ (j < 4 ∧ y + j < c.h)) : colF x y plane c j = c := by
  unfold colF
  rw [show min 4 (c.h - y) - j = 0 by omega]
  rfl
theorem four_bits {f : Nat} (h : f < 4) : andI ((f : Int) / 2) 1 = ((f / 2 : Nat) : Int) ∧ andI (f : Int) 1 = ((f % 2 : Nat) : Int) := by
  rcases (by omega : f = 0 ∨ f = 1 ∨ f = 2 ∨ f = 3) with rfl | rfl | rfl | rfl <;> decide
theorem oneB_zero {p : Prop} [Decidable p] : oneB (decide p) = 0 ↔ ¬ p := by
  by_cases h : p <;> simp [oneB, h]
theorem k_column {g : Cg} {c : Cd} {n x y plane : Nat} (hg : GOk g) (hf : Fit g c n) (hn : 192 ≤ n) (hx : x < g.w) (hy : y < g.h) (hp : plane ≤ 60) :
    Spec Tryz.prog 126 [g.p, .int .i64 (x : Nat), .int .i64 (y : Nat), .int .i64 (plane : Nat)] [CD g c] (fun _ : Unit => ⟨.tuple #[], True, [CD g (column plane c x y)]⟩) := by
 refine spec_of_tr func126 rfl ntmps126 (by kernel_rfl) ?_
 have hw1 := hg.w1
 have hw2 := hg.w2
 have hh1 := hg.h1
 have hh2 := hg.h2
 refine tr_seq (tr_region (tas rfl (trl_nil (tr_seq (tr_seq (tr_region (tmv rfl (tmv rfl (tmv rfl (trl_eff (ef_call rfl rfl call134 (k_blank hg hf hx hy) (by with_reducible repeat constructor) fun x15 hx15 => ?_)))))))))))
 dsimp only [List.cons_append, List.nil_append]
 refine trl_nil ?_
 refine tr_join (α := Nat × Cd) (fun z => [(0, g.p), (1, .int .i64 (x : Nat)), (2, .int .i64 (y : Nat)), (3, .int .i64 (plane : Nat)), (8, .int .i64 (z.1 : Nat))]) (fun z => [pure' (column plane c x y = colF x y plane z.2 z.1 ∧ Fit g z.2 (32 * (4 - z.1)) ∧ z.1 ≤ 5), CD g z.2]) (fun K0 hK0 => ?_) ?_
 ·refine tr_ifb rfl (fun h0 => ?_) (fun h0 => ?_)
  ·have hby : y + 4 ≤ g.h := by unfold blankF at h0; rw [Bool.and_eq_true, decide_eq_true_eq, hf.h] at h0; omega
   have hf4 := firstF_le c x y plane 4 4 (by decide) (by decide)
   refine tr_seq (tr_region (tas rfl (trl_nil (tr_seq (tr_seq (tr_region (tas rfl (trl_nil (tr_block (tr_while (α := Nat × Nat) ((4, 4)) (fun z => z.1) (fun z => [(0, g.p), (1, .int .i64 (x : Nat)), (2, .int .i64 (y : Nat)), (3, .int .i64 (plane : Nat)), (9, .int .i64 (z.2 : Nat)), (10, .int .i64 ((z.1 : Nat) - 1))]) (fun z => [pure' (z.1 ≤ 4 ∧ z.2 ≤ 4 ∧ firstF c x y plane z.1 z.2 = first4 c x y plane), CD g c]) (ks := [0,1,2,3,9,10]) (.cons rfl (.cons rfl (.cons rfl (.cons rfl (.cons rfl (.cons rfl .nil)))))) (holds_pure ⟨by decide, by decide, rfl⟩ (holds_of_picks (by with_reducible repeat constructor))) ?_))))))))))
   intro ⟨m, f⟩ base ih0
   refine Tr.pure fun ⟨hm, hf5, hfi⟩ => ?_
   dsimp only at hm hf5 hfi ⊢
   refine tr_seq (tr_seq (tr_region (tmv rfl (trl_pv (pv_geq rfl rfl) (trl_nil (tr_if rfl (fun h1 => ?_) (fun h1 => ?_)))))))
   ·obtain ⟨k, rfl⟩ : ∃ k, m = k + 1 := ⟨m - 1, by omega⟩
    obtain ⟨hc1, hc2, hc3⟩ := cell_lt (y := y + k) hw2 hh2 hx (by omega)
    refine tr_skip (tr_seq (tr_block (tr_seq (tr_draww (rem := [0,1,2,3,4,5,6,7,8,9,10,11,12,13,14,15,16,17,18,19,20]) (by kernel_rfl) (by kernel_rfl) rfl ?_))))
    refine twm 0 [1,2,3,14,15,18,19,20] rfl (by kernel_rfl) rfl rfl (twn 1 [2,3,14,15,18,19,20] rfl (by kernel_rfl) rfl rfl (trw_pure 2 [3,14,15,18,19,20] rfl (by kernel_rfl) rfl (pv_fieldAddr runUnderlying133 rfl sizeOf38 rfl rfl) (twm 4 [6,11,13,14,15,18,19,20] rfl (by kernel_rfl) rfl rfl (twm 5 [6,11,13,14,15,18,19,20] rfl (by kernel_rfl) rfl rfl (trw_pure 6 [11,13,14,15,18,19,20] rfl (by kernel_rfl) rfl (pv_conv (pv_addI rfl rfl (by omega) (by omega)) (congrArg (Value.int .i64) (show (y : Int) + (((k + 1 : Nat) : Int) - 1) = ((y + k : Nat) : Int) from by omega))) ?_)))))
    refine twm 7 [8,9,10,11,13,14,15,18,19,20] rfl (by kernel_rfl) rfl rfl (twn 8 [9,10,11,13,14,15,18,19,20] rfl (by kernel_rfl) rfl rfl (trw_pure 9 [10,11,13,14,15,18,19,20] rfl (by kernel_rfl) rfl (pv_fieldAddr runUnderlying133 rfl sizeOf3 rfl rfl) (twm 12 [13,14,15,18,19,20] rfl (by kernel_rfl) rfl rfl (twm 16 [17,18,19,20] rfl (by kernel_rfl) rfl rfl (trw_pure 17 [18,19,20] rfl (by kernel_rfl) rfl (pv_conv (pv_convert runUnderlying3 runUnderlying104 rfl) (congrArg (Value.int .u64) (wrapu64_id (by omega) (by omega)))) ?_)))))
    refine trw_read 3 [14,15,18,19,20] rfl (by kernel_rfl) rfl (rv_cd isAgg38 rfl (by with_reducible repeat constructor) rfl) ?_
    refine trw_read 10 [11,13,14,15,18,19,20] rfl (by kernel_rfl) rfl (rv_cd isAgg3 rfl (by with_reducible repeat constructor) rfl) ?_
    refine trw_pure 11 [13,14,15,18,19,20] rfl (by kernel_rfl) rfl (pv_conv (pv_mulI rfl rfl (by omega) (by omega)) (congrArg (Value.int .i64) (show ((y + k : Nat) : Int) * (g.w : Int) = (((y + k) * g.w : Nat) : Int) from by simp))) ?_
    refine trw_pure 13 [14,15,18,19,20] rfl (by kernel_rfl) rfl (pv_conv (pv_addI rfl rfl (by omega) (by omega)) (congrArg (Value.int .i64) (show (((y + k) * g.w : Nat) : Int) + (x : Int) = (((y + k) * g.w + x : Nat) : Int) from by omega))) ?_
    refine trw_pure 14 [15,18,19,20] rfl (by kernel_rfl) rfl (pv_indexAddr_v runUnderlying38 sizeOf3 rfl rfl hg.m (Int.natCast_nonneg _) (Int.ofNat_lt.2 hc2)) (trw_read 15 [18,19,20] rfl (by kernel_rfl) rfl (rv_cdm isAgg3 rfl (by with_reducible repeat constructor) (cdm_at hf hc2)) ?_)
    refine trw_pure 18 [19,20] rfl (by kernel_rfl) rfl (pv_shrI rfl rfl (by omega) (by omega)) ?_
    refine trw_pure 19 [20] rfl (by kernel_rfl) rfl (pv_and rfl rfl) (trw_pure 20 [] rfl (by kernel_rfl) rfl (pv_eql rfl rfl) (trw_nil (tr_keep (ks := [0,1,2,3,9,10,40]) (.cons rfl (.cons rfl (.cons rfl (.cons rfl (.cons rfl (.cons rfl (.cons rfl .nil))))))) fun base => ?_)))
    refine tr_if rfl (fun h2 => ?_) (fun h2 => ?_)
    ·refine tr_region (tmv rfl (tas rfl (trl_nil (tr_inBlock (tr_region (tmv rfl (trl_pv (pv_subI rfl rfl (by omega) (by omega)) ?_)))))))
     refine tas rfl (trl_nil (tr_again ih0 (k, k) (by first | omega | (dsimp only; omega)) (.cons rfl (.cons rfl (.cons rfl (.cons rfl (.cons (keep_int rfl (by dsimp only; omega)) (.cons (keep_int rfl (by dsimp only; omega)) .nil)))))) (holds_pure ⟨by dsimp only; omega, by dsimp only; omega, by rw [← hfi]; dsimp only [firstF]; rw [if_pos (by unfold magB; rw [hf.w, hf.mag]; exact h2)]⟩ (holds_of_picks (by with_reducible repeat constructor)))))
    ·refine tr_skip (tr_inBlock (tr_region (tmv rfl (trl_pv (pv_subI rfl rfl (by omega) (by omega)) ?_))))
     refine tas rfl (trl_nil (tr_again ih0 (k, f) (by first | omega | (dsimp only; omega)) (.cons rfl (.cons rfl (.cons rfl (.cons rfl (.cons rfl (.cons (keep_int rfl (by dsimp only; omega)) .nil)))))) (holds_pure ⟨by dsimp only; omega, hf5, by rw [← hfi]; dsimp only [firstF]; rw [if_neg (by unfold magB; rw [hf.w, hf.mag]; exact h2)]⟩ (holds_of_picks (by with_reducible repeat constructor)))))
   ·refine tr_exit rfl (tr_seq (tr_seq ?_))
    obtain rfl : m = 0 := by omega
    have hfe : f = first4 c x y plane := hfi
    refine tr_region (tmv rfl (tmv rfl (trl_pv (pv_conv (pv_lss rfl rfl) (congrArg Value.bool (show decide ((f : Int) < 4) = decide (f < 4) from decide_eq_decide.2 (by omega)))) ?_)))
    refine trl_eff (ef_call rfl rfl call54 (k_one) (by with_reducible repeat constructor) fun x45 hx45 => ?_)
    dsimp only [List.cons_append, List.nil_append]
    refine trl_eff (ef_call rfl rfl call127 (k_bit (k := 17) hg hf (by decide)) (by with_reducible repeat constructor) fun x46 hx46 => ?_)
    dsimp only [List.cons_append, List.nil_append]
    refine trl_pv (pv_eql rfl rfl) (trl_nil (tr_keep (ks := [0,1,2,3,9,47]) (.cons rfl (.cons rfl (.cons rfl (.cons rfl (.cons rfl (.cons rfl .nil)))))) fun base => ?_))
    refine tr_if rfl (fun h3 => ?_) (fun h3 => ?_)
    ·have hnf : ¬ f < 4 := oneB_zero.1 h3
     refine tr_ret func126 rfl .nil (by kernel_rfl) .nil () rfl trivial (by rw [show column plane c x y = bitF c 17 (oneB (decide (f < 4))) from by unfold column; rw [if_pos h0, ← hfe, if_neg hnf, h3]]; exact holds_of_picks (by with_reducible repeat constructor))
    ·refine tr_skip (tr_seq ?_)
     have hf4 : f < 4 := Decidable.byContradiction fun h => h3 (oneB_zero.2 h)
     obtain ⟨fb1, fb2⟩ := four_bits hf4
     have a1 := bitF_adv hf.ok (k := 17) (by decide) (oneB (decide (f < 4)))
     have fit1 := hf.adv a1 (n := 48 + 128) (by omega)
     have a2 := bitF_adv fit1.ok (k := 18) (by decide) (andI ((f : Int) / 2) 1)
     have fit2 := fit1.adv a2 (n := 32 + 128) (by omega)
     have a3 := bitF_adv fit2.ok (k := 18) (by decide) (andI (f : Int) 1)
     have fit3 := fit2.adv a3 (n := 16 + 128) (by omega)
     refine tr_region (tmv rfl (tmv rfl (trl_pv (pv_conv (pv_shrI rfl rfl (by decide) (by decide)) (congrArg (Value.int .i64) (show (f : Int) / 2 ^ (1 : Int).toNat = (f : Int) / 2 from rfl))) ?_)))
     refine trl_pv (pv_and rfl rfl) (trl_eff (ef_call rfl rfl call127 (k_bit (k := 18) hg fit1 (by decide) (b := andI ((f : Int) / 2) 1)) (by with_reducible repeat constructor) fun x52 hx52 => ?_))
     dsimp only [List.cons_append, List.nil_append]
     refine trl_pv (pv_conv (pv_mulI rfl rfl (by rw [fb1]; omega) (by rw [fb1]; omega)) (congrArg (Value.int .i64) (show 2 * andI ((f : Int) / 2) 1 = ((2 * (f / 2) : Nat) : Int) from by rw [fb1]; omega))) ?_
     refine tmv rfl (tmv rfl (trl_pv (pv_and rfl rfl) (trl_eff (ef_call rfl rfl call127 (k_bit (k := 18) hg fit2 (by decide) (b := andI (f : Int) 1)) (by with_reducible repeat constructor) fun x57 hx57 => ?_))))
     dsimp only [List.cons_append, List.nil_append]
     refine trl_pv (pv_conv (pv_addI rfl rfl (by rw [fb2]; omega) (by rw [fb2]; omega)) (congrArg (Value.int .i64) (show ((2 * (f / 2) : Nat) : Int) + andI (f : Int) 1 = ((f : Nat) : Int) from by rw [fb2]; omega))) ?_
     refine tas rfl (trl_nil (tr_keep (ks := [0,1,2,3,9]) (.cons rfl (.cons rfl (.cons rfl (.cons rfl (.cons rfl .nil))))) fun base => ?_))
     refine tr_seq (tr_seq (tr_region (tmv rfl (tnc rfl (trl_pv (pv_fieldAddr runUnderlying133 rfl sizeOf4 rfl rfl) (trl_val (rv_cd isAgg4 rfl (by with_reducible repeat constructor) (cd_at10 (by assumption))) ?_))))))
     refine trl_pv (pv_not rfl) (trl_nil (tr_else rfl rfl ?_))
     refine tr_skip (tr_seq (tr_region (tmv rfl (tmv rfl (tmv rfl (tmv rfl (trl_pv (pv_conv (pv_addI rfl rfl (by omega) (by omega)) (congrArg (Value.int .i64) (show (y : Int) + (f : Int) = ((y + f : Nat) : Int) from by omega))) ?_)))))))
     refine trl_eff (ef_call rfl rfl call123 (k_sign hg fit3 (by omega) hx (y := y + f) (by omega)) (by with_reducible repeat constructor) fun x90 hx90 => ?_)
     dsimp only [List.cons_append, List.nil_append]
     refine trl_nil (tr_keep (ks := [0,1,2,3,9]) (.cons rfl (.cons rfl (.cons rfl (.cons rfl (.cons rfl .nil))))) fun base => ?_)
     refine tr_region (tmv rfl (trl_pv (pv_conv (pv_addI rfl rfl (by omega) (by omega)) (congrArg (Value.int .i64) (show (f : Int) + 1 = ((f + 1 : Nat) : Int) from by omega))) ?_))
     refine tas rfl (trl_nil (tr_meet hK0 (f + 1, runF c x y plane) (.cons rfl (.cons rfl (.cons rfl (.cons rfl (.cons rfl .nil))))) (by rw [show signF (bitF (bitF (bitF c 17 (oneB (decide (f < 4)))) 18 (andI ((f : Int) / 2) 1)) 18 (andI (f : Int) 1)) x (y + f) = runF c x y plane from by unfold runF; rw [← hfe]]; exact holds_pure ⟨by unfold column; rw [if_pos h0, ← hfe, if_pos hf4], by dsimp only; exact hf.adv (runF_adv hf.ok x y plane) (by omega), by dsimp only; omega⟩ (holds_of_picks (by with_reducible repeat constructor)))))
  ·refine tr_skip (tr_meet hK0 (0, c) (.cons rfl (.cons rfl (.cons rfl (.cons rfl (.cons rfl .nil))))) (holds_pure ⟨by unfold column; rw [h0]; rfl, hf.less (by omega), Nat.zero_le _⟩ (holds_of_picks (by with_reducible repeat constructor))))
 ·intro ⟨j0, c0⟩ base
  refine Tr.pure fun ⟨hcol, hf0, hj0⟩ => ?_
  dsimp only at hcol hf0 hj0 ⊢
  refine tr_block (tr_while (α := Nat × Cd) ((j0, c0)) (fun z => 5 - z.1) (fun z => [(0, g.p), (1, .int .i64 (x : Nat)), (2, .int .i64 (y : Nat)), (3, .int .i64 (plane : Nat)), (8, .int .i64 (z.1 : Nat))]) (fun z => [pure' (colF x y plane z.2 z.1 = column plane c x y ∧ Fit g z.2 (32 * (4 - z.1)) ∧ z.1 ≤ 5), CD g z.2]) (ks := [0,1,2,3,8]) (.cons rfl (.cons rfl (.cons rfl (.cons rfl (.cons rfl .nil))))) (holds_pure ⟨hcol.symm, hf0, hj0⟩ (holds_of_picks (by with_reducible repeat constructor))) ?_)
  intro ⟨j, c1⟩ base ih1
  refine Tr.pure fun ⟨hR, hf1, hj5⟩ => ?_
  dsimp only at hR hf1 hj5 ⊢
  refine tr_seq (tr_seq (tr_region (tmv rfl (trl_pv (pv_lss rfl rfl) (tmv rfl (trl_split 2 rfl (fun g95 => ?_) (fun g95 => ?_)))))))
  ·refine trl_pvg rfl (decide_eq_true g95) (pv_move rfl) (trl_pvg rfl (decide_eq_true g95) (pv_move rfl) (trl_pvg rfl (decide_eq_true g95) (pv_addI rfl rfl (by omega) (by omega)) ?_))
   refine trl_pvg rfl (decide_eq_true g95) (pv_move rfl) (trl_pvg rfl (decide_eq_true g95) (pv_nilCheck rfl) (trl_pvg rfl (decide_eq_true g95) (pv_fieldAddr runUnderlying133 rfl sizeOf3 rfl rfl) (trl_valg rfl (decide_eq_true g95) (rv_cd isAgg3 rfl (by with_reducible repeat constructor) rfl) ?_)))
   refine trl_pvg rfl (decide_eq_true g95) (pv_lss rfl rfl) (trl_pv (pv_pick_t rfl (decide_eq_true g95) rfl) (trl_nil (tr_keep (ks := [0,1,2,3,8,104]) (.cons rfl (.cons rfl (.cons rfl (.cons rfl (.cons rfl (.cons rfl .nil)))))) fun base => ?_)))
   refine tr_if rfl (fun h5 => ?_) (fun h5 => ?_)
   ·refine tr_skip (tr_seq (tr_block (tr_seq ?_)))
    have hj4 : j < 4 := by omega
    obtain ⟨hc1, hc2, hc3⟩ := cell_lt (y := y + j) hw2 hh2 hx (by omega)
    refine tr_region (tmv rfl (tmv rfl (trl_pv (pv_conv (pv_addI rfl rfl (by omega) (by omega)) (congrArg (Value.int .i64) (show (y : Int) + (j : Int) = ((y + j : Nat) : Int) from by omega))) ?_)))
    refine tmv rfl (tnc rfl (trl_pv (pv_fieldAddr runUnderlying133 rfl sizeOf3 rfl rfl) (trl_val (rv_cd isAgg3 rfl (by with_reducible repeat constructor) rfl) ?_)))
    refine trl_pv (pv_conv (pv_mulI rfl rfl (by omega) (by omega)) (congrArg (Value.int .i64) (show ((y + j : Nat) : Int) * (g.w : Int) = (((y + j) * g.w : Nat) : Int) from by simp))) ?_
    refine tmv rfl (trl_pv (pv_conv (pv_addI rfl rfl (by omega) (by omega)) (congrArg (Value.int .i64) (show (((y + j) * g.w : Nat) : Int) + (x : Int) = (((y + j) * g.w + x : Nat) : Int) from by omega))) ?_)
    refine tas rfl (trl_nil (tr_keep (ks := [0,1,2,3,8,11]) (.cons rfl (.cons rfl (.cons rfl (.cons rfl (.cons rfl (.cons rfl .nil)))))) fun base => ?_))
    refine tr_seq (tr_seq (tr_region (tmv rfl (tnc rfl (trl_pv (pv_fieldAddr runUnderlying133 rfl sizeOf123 rfl rfl) (trl_val (rv_cd isAgg123 rfl (by with_reducible repeat constructor) rfl) ?_))))))
    refine tmv rfl (trl_pv (pv_indexAddr_v runUnderlying123 sizeOf4 rfl rfl hg.s (Int.natCast_nonneg _) (Int.ofNat_lt.2 hc2)) (trl_val (rv_cds isAgg4 rfl (by with_reducible repeat constructor) (cds_at hf1 hc2)) ?_))
    refine tmv rfl (trl_splitb 7 rfl (fun g124 => ?_) (fun g124 => ?_))
    ·refine trl_not rfl g124 ?_
     refine trl_not rfl g124 ?_
     refine trl_not rfl g124 ?_
     refine trl_not rfl g124 ?_
     refine trl_not rfl g124 ?_
     refine trl_not rfl g124 ?_
     refine trl_not rfl g124 ?_
     refine trl_pv (pv_pick_t rfl g124 rfl) (trl_nil (tr_keep (ks := [0,1,2,3,8,11,132]) (.cons rfl (.cons rfl (.cons rfl (.cons rfl (.cons rfl (.cons rfl (.cons rfl .nil))))))) fun base => ?_))
     refine tr_then rfl rfl ?_
     refine tr_exit rfl (tr_region (tmv rfl (trl_pv (pv_addI rfl rfl (by omega) (by omega)) ?_)))
     refine tas rfl (trl_nil (tr_again ih1 (j + 1, c1) (by first | omega | (dsimp only; omega)) (.cons rfl (.cons rfl (.cons rfl (.cons rfl (.cons rfl .nil))))) (holds_pure ⟨by dsimp only; rw [← hR, colF_step hf1.ok hj4 (by rw [hf1.h]; omega), show colStep x y plane c1 j = c1 from if_pos (by rw [hf1.w]; exact .inl g124)], by dsimp only; exact hf1.less (by omega), by dsimp only; omega⟩ (holds_of_picks (by with_reducible repeat constructor)))))
    ·refine trl_pvg rfl g124 (pv_move rfl) ?_
     refine trl_pvg rfl g124 (pv_nilCheck rfl) ?_
     refine trl_pvg rfl g124 (pv_fieldAddr runUnderlying133 rfl sizeOf123 rfl rfl) ?_
     refine trl_valg rfl g124 (rv_cd isAgg123 rfl (by with_reducible repeat constructor) rfl) ?_
     refine trl_pvg rfl g124 (pv_move rfl) ?_
     refine trl_pvg rfl g124 (pv_indexAddr_v runUnderlying123 sizeOf4 rfl rfl hg.e (Int.natCast_nonneg _) (Int.ofNat_lt.2 hc2)) ?_
     refine trl_valg rfl g124 (rv_cde isAgg4 rfl (by with_reducible repeat constructor) (cde_at hf1 hc2)) ?_
     refine trl_pv (pv_pick_f rfl g124 rfl) (trl_nil (tr_keep (ks := [0,1,2,3,8,11,132]) (.cons rfl (.cons rfl (.cons rfl (.cons rfl (.cons rfl (.cons rfl (.cons rfl .nil))))))) fun base => ?_))
     refine tr_ifb rfl (fun h6 => ?_) (fun h6 => ?_)
     ·refine tr_exit rfl (tr_region (tmv rfl (trl_pv (pv_addI rfl rfl (by omega) (by omega)) ?_)))
      refine tas rfl (trl_nil (tr_again ih1 (j + 1, c1) (by first | omega | (dsimp only; omega)) (.cons rfl (.cons rfl (.cons rfl (.cons rfl (.cons rfl .nil))))) (holds_pure ⟨by dsimp only; rw [← hR, colF_step hf1.ok hj4 (by rw [hf1.h]; omega), show colStep x y plane c1 j = c1 from if_pos (by rw [hf1.w]; exact .inr h6)], by dsimp only; exact hf1.less (by omega), by dsimp only; omega⟩ (holds_of_picks (by with_reducible repeat constructor)))))
     ·refine tr_skip (tr_seq ?_)
      have hkz := ctxZ_lt c1 x (y + j)
      have hst : colStep x y plane c1 j = sayBit c1 x (y + j) plane (ctxZ c1 x (y + j)).toNat := if_neg (by rw [hf1.w]; rintro (h | h) <;> first | (rw [h] at g124; cases g124) | (rw [h] at h6; cases h6))
      refine tr_region (tmv rfl (tmv rfl (tmv rfl (tmv rfl (tmv rfl (tmv rfl (tmv rfl (trl_pv (pv_conv (pv_addI rfl rfl (by omega) (by omega)) (congrArg (Value.int .i64) (show (y : Int) + (j : Int) = ((y + j : Nat) : Int) from by omega))) ?_))))))))
      refine trl_eff (ef_call rfl rfl call121 (k_zero' hg hf1 hx (y := y + j) (by omega)) (by with_reducible repeat constructor) fun x141 hx141 => ?_)
      dsimp only [List.cons_append, List.nil_append]
      refine trl_eff (ef_call rfl rfl call122 (k_mag (k := (ctxZ c1 x (y + j)).toNat) hg hf1 (by omega) hc2 hp hkz) (by with_reducible repeat constructor) fun x142 hx142 => ?_)
      dsimp only [List.cons_append, List.nil_append]
      refine trl_pv (pv_eql rfl rfl) (trl_nil (tr_keep (ks := [0,1,2,3,8,143]) (.cons rfl (.cons rfl (.cons rfl (.cons rfl (.cons rfl (.cons rfl .nil)))))) fun base => ?_))
      refine tr_if rfl (fun h7 => ?_) (fun h7 => ?_)
      ·have hf3 : Fit g (bitF c1 (ctxZ c1 x (y + j)).toNat (magB c1 ((y + j) * g.w + x) plane)) 16 := hf1.adv (bitF_adv hf1.ok hkz _) (by omega)
       refine tr_region (tmv rfl (tmv rfl (tmv rfl (tmv rfl (trl_pv (pv_conv (pv_addI rfl rfl (by omega) (by omega)) (congrArg (Value.int .i64) (show (y : Int) + (j : Int) = ((y + j : Nat) : Int) from by omega))) ?_)))))
       refine trl_eff (ef_call rfl rfl call123 (k_sign hg hf3 (by omega) hx (y := y + j) (by omega)) (by with_reducible repeat constructor) fun x149 hx149 => ?_)
       dsimp only [List.cons_append, List.nil_append]
       refine trl_nil (tr_keep (ks := [0,1,2,3,8]) (.cons rfl (.cons rfl (.cons rfl (.cons rfl (.cons rfl .nil))))) fun base => ?_)
       refine tr_inBlock (tr_region (tmv rfl (trl_pv (pv_addI rfl rfl (by omega) (by omega)) ?_)))
       refine tas rfl (trl_nil (tr_again ih1 (j + 1, colStep x y plane c1 j) (by first | omega | (dsimp only; omega)) (.cons rfl (.cons rfl (.cons rfl (.cons rfl (.cons rfl .nil))))) (by rw [show signF (bitF c1 (ctxZ c1 x (y + j)).toNat (magB c1 ((y + j) * g.w + x) plane)) x (y + j) = colStep x y plane c1 j from by rw [hst]; unfold sayBit; rw [hf1.w, if_pos h7]]; exact holds_pure ⟨by dsimp only; rw [← hR, ← colF_step hf1.ok hj4 (by rw [hf1.h]; omega)], by dsimp only; exact hf1.adv (colStep_adv hf1.ok x y plane j) (by omega), by dsimp only; omega⟩ (holds_of_picks (by with_reducible repeat constructor)))))
      ·refine tr_skip (tr_inBlock (tr_region (tmv rfl (trl_pv (pv_addI rfl rfl (by omega) (by omega)) ?_))))
       refine tas rfl (trl_nil (tr_again ih1 (j + 1, colStep x y plane c1 j) (by first | omega | (dsimp only; omega)) (.cons rfl (.cons rfl (.cons rfl (.cons rfl (.cons rfl .nil))))) (by rw [show bitF c1 (ctxZ c1 x (y + j)).toNat (magB c1 ((y + j) * g.w + x) plane) = colStep x y plane c1 j from by rw [hst]; unfold sayBit; rw [hf1.w, if_neg h7]]; exact holds_pure ⟨by dsimp only; rw [← hR, ← colF_step hf1.ok hj4 (by rw [hf1.h]; omega)], by dsimp only; exact hf1.adv (colStep_adv hf1.ok x y plane j) (by omega), by dsimp only; omega⟩ (holds_of_picks (by with_reducible repeat constructor)))))
   ·refine tr_exit rfl (tr_end func126 rfl .nil (by kernel_rfl) .nil () rfl trivial (by rw [← hR, colF_end (by rw [hf1.h]; omega)]; exact holds_of_picks (by with_reducible repeat constructor)))
  ·refine trl_not rfl (decide_eq_false g95) ?_
   refine trl_not rfl (decide_eq_false g95) ?_
   refine trl_not rfl (decide_eq_false g95) ?_
   refine trl_not rfl (decide_eq_false g95) ?_
   refine trl_not rfl (decide_eq_false g95) ?_
   refine trl_not rfl (decide_eq_false g95) ?_
   refine trl_not rfl (decide_eq_false g95) ?_
   refine trl_not rfl (decide_eq_false g95) ?_
   refine trl_pv (pv_pick_f rfl (decide_eq_false g95) rfl) (trl_nil (tr_keep (ks := [0,1,2,3,8,104]) (.cons rfl (.cons rfl (.cons rfl (.cons rfl (.cons rfl (.cons rfl .nil)))))) fun base => ?_))
   refine tr_else rfl rfl ?_
   refine tr_exit rfl (tr_end func126 rfl .nil (by kernel_rfl) .nil () rfl trivial (by rw [← hR, colF_end (by rw [hf1.h]; omega)]; exact holds_of_picks (by with_reducible repeat constructor)))
end Go.Proofs
