/- Contracts of functions that the law reaches, in every memory (part Q7). -/
import Derived.Test.YtbmfgngjcpmjeaaGreatQ6
set_option linter.unusedVariables false
set_option linter.unusedSimpArgs false
set_option maxRecDepth 10000
namespace Go.Proofs
open Go.Eng Tryz
theorem cell_lt {w h x y : Nat} (hw : w ≤ 64) (hh : h ≤ 64) (hx : x < w) (hy : y < h) : y * w ≤ 4096 ∧ y * w + x < w * h ∧ y * w + x < 4096 := by
  have h2 : (y + 1) * w ≤ h * w := Nat.mul_le_mul_right _ hy
  have h3 : h * w ≤ 64 * 64 := Nat.mul_le_mul hh hw
  rw [Nat.succ_mul] at h2
  rw [Nat.mul_comm w h]
  omega
theorem sign_eq {g : Cg} {c : Cd} {n x y : Nat} (hf : Fit g c n) :
    putS (putN (bitF c (sK c x y) (xorI (c.neg.getD (y * g.w + x) 0) (sT c x y))) ((bitF c (sK c x y) (xorI (c.neg.getD (y * g.w + x) 0) (sT c x y))).neg.set (y * g.w + x) (xorI (xorI (c.neg.getD (y * g.w + x) 0) (sT c x y)) (sT c x y))))
      ((putN (bitF c (sK c x y) (xorI (c.neg.getD (y * g.w + x) 0) (sT c x y))) ((bitF c (sK c x y) (xorI (c.neg.getD (y * g.w + x) 0) (sT c x y))).neg.set (y * g.w + x) (xorI (xorI (c.neg.getD (y * g.w + x) 0) (sT c x y)) (sT c x y)))).sig.set (y * g.w + x) true) = signF c x y := by
  obtain ⟨h1, h2, _⟩ := bitF_same c (sK c x y) (xorI (c.neg.getD (y * g.w + x) 0) (sT c x y))
  unfold putS putN
  dsimp only
  rw [h1, h2]
  unfold signF sN
  rw [hf.w]
theorem sK_eq (c : Cd) (x y : Nat) : ((sK c x y : Nat) : Int) = signK (sH c x y) (sV c x y) := by
  have h1 := clip_ok (wI (saysF c x y (-1) 0 + saysF c x y 1 0))
  have h2 := clip_ok (wI (saysF c x y 0 (-1) + saysF c x y 0 1))
  have := signK_ok (h := sH c x y) (v := sV c x y) h1.1 h1.2 h2.1 h2.2
  unfold sK; omega
def foldN (f : Cd → Nat → Cd) (c : Cd) (n : Nat) : Cd := (List.range n).foldl f c
theorem foldN_succ (f : Cd → Nat → Cd) (c : Cd) (n : Nat) : foldN f c (n + 1) = f (foldN f c n) n := by unfold foldN; rw [List.range_succ, List.foldl_append]; rfl
theorem foldN_adv {f : Cd → Nat → Cd} {m : Nat} (hf : ∀ c x, CdOk c → Adv c (f c x) m) {c : Cd} (hc : CdOk c) (n : Nat) : Adv c (foldN f c n) (m * n) := by
  have := fold_adv hf (List.range n) hc
  rwa [List.length_range] at this
theorem k_sign {g : Cg} {c : Cd} {n x y : Nat} (hg : GOk g) (hf : Fit g c n) (hn : 16 ≤ n) (hx : x < g.w) (hy : y < g.h) :
    Spec Tryz.prog 123 [g.p, .int .i64 (x : Nat), .int .i64 (y : Nat)] [CD g c] (fun _ : Unit => ⟨.tuple #[], True, [CD g (signF c x y)]⟩) := by
 refine spec_of_tr func123 rfl ntmps123 (by kernel_rfl) ?_
 have hw1 := hg.w1
 have hw2 := hg.w2
 have hh1 := hg.h1
 have hh2 := hg.h2
 obtain ⟨hc1, hc2, hc3⟩ := cell_lt hw2 hh2 hx hy
 refine tr_seq (tr_region (tmv rfl (tmv rfl (tnc rfl (trl_pv (pv_fieldAddr runUnderlying133 rfl sizeOf3 rfl rfl) (trl_val (rv_cd isAgg3 rfl (by with_reducible repeat constructor) rfl) ?_))))))
 refine trl_pv (pv_conv (pv_mulI rfl rfl (by omega) (by omega)) (congrArg (Value.int .i64) (show (y : Int) * (g.w : Int) = ((y * g.w : Nat) : Int) from by simp))) ?_
 refine tmv rfl (trl_pv (pv_conv (pv_addI rfl rfl (by omega) (by omega)) (congrArg (Value.int .i64) (show ((y * g.w : Nat) : Int) + (x : Int) = ((y * g.w + x : Nat) : Int) from by omega))) ?_)
 refine tas rfl (trl_nil (tr_keep (ks := [0,1,2,6]) (.cons rfl (.cons rfl (.cons rfl (.cons rfl .nil)))) fun base => ?_))
 refine tr_seq (tr_region (tmv rfl (tmv rfl (tmv rfl (trl_eff (ef_call rfl rfl call131 (k_says hg hf hx hy (dx := -1) (dy := 0) (by decide) (by decide) (by decide) (by decide)) (by with_reducible repeat constructor) fun x22 hx22 => ?_))))))
 dsimp only [List.cons_append, List.nil_append]
 refine tmv rfl (tmv rfl (tmv rfl (trl_eff (ef_call rfl rfl call131 (k_says hg hf hx hy (dx := 1) (dy := 0) (by decide) (by decide) (by decide) (by decide)) (by with_reducible repeat constructor) fun x26 hx26 => ?_))))
 dsimp only [List.cons_append, List.nil_append]
 refine trl_pv (pv_add rfl rfl) (trl_pv (pv_minI rfl rfl) (trl_pv (pv_maxI rfl rfl) (tas rfl (trl_nil (tr_keep (ks := [0,1,2,6,7]) (.cons rfl (.cons rfl (.cons rfl (.cons rfl (.cons rfl .nil))))) fun base => ?_)))))
 refine tr_seq (tr_region (tmv rfl (tmv rfl (tmv rfl (trl_eff (ef_call rfl rfl call131 (k_says hg hf hx hy (dx := 0) (dy := -1) (by decide) (by decide) (by decide) (by decide)) (by with_reducible repeat constructor) fun x33 hx33 => ?_))))))
 dsimp only [List.cons_append, List.nil_append]
 refine tmv rfl (tmv rfl (tmv rfl (trl_eff (ef_call rfl rfl call131 (k_says hg hf hx hy (dx := 0) (dy := 1) (by decide) (by decide) (by decide) (by decide)) (by with_reducible repeat constructor) fun x37 hx37 => ?_))))
 dsimp only [List.cons_append, List.nil_append]
 refine trl_pv (pv_add rfl rfl) (trl_pv (pv_minI rfl rfl) (trl_pv (pv_maxI rfl rfl) (tas rfl (trl_nil (tr_keep (ks := [0,6,7,8]) (.cons rfl (.cons rfl (.cons rfl (.cons rfl .nil)))) fun base => ?_)))))
 refine tr_seq (tr_region (tmv rfl (tmv rfl (trl_eff (ef_call rfl rfl call132 (x_sign (h := sH c x y) (v := sV c x y) (clip_ok _).1 (clip_ok _).2 (clip_ok _).1 (clip_ok _).2) (by with_reducible repeat constructor) fun x44 hx44 => ?_)))))
 dsimp only [List.cons_append, List.nil_append]
 refine tmv rfl (trl_pv (pv_extract rfl rfl) (trl_pv (pv_extract rfl rfl) (tas rfl (tas rfl (trl_nil (tr_keep (ks := [0,6,9,10]) (.cons rfl (.cons rfl (.cons rfl (.cons rfl .nil)))) fun base => ?_))))))
 refine tr_seq (tr_seq (tr_region (tmv rfl (tnc rfl (trl_pv (pv_fieldAddr runUnderlying133 rfl sizeOf4 rfl rfl) (trl_val (rv_cd isAgg4 rfl (by with_reducible repeat constructor) (cd_at11 (by assumption))) ?_))))))
 refine trl_nil ?_
 refine tr_join (α := Unit) (fun _ => [(0, g.p), (6, .int .i64 ((y * g.w + x : Nat) : Int)), (9, .int .i64 ((sK c x y : Nat) : Int)), (10, .int .i64 (sT c x y))]) (fun _ => [CD g c]) (fun K0 hK0 => ?_) ?_
 ·refine tr_ifb rfl (fun h0 => ?_) (fun h0 => ?_)
  ·refine tr_region (tas rfl (trl_nil (tr_meet hK0 () (.cons rfl (.cons rfl (.cons (keep_int rfl (sK_eq c x y).symm) (.cons (keep_int rfl (show (0 : Int) = sT c x y from (if_pos (by rw [hf.raw]; exact h0)).symm)) .nil)))) (holds_of_picks (by with_reducible repeat constructor)))))
  ·refine tr_skip (tr_meet hK0 () (.cons rfl (.cons rfl (.cons (keep_int rfl (sK_eq c x y).symm) (.cons (keep_int rfl (show signT (sH c x y) (sV c x y) = sT c x y from (if_neg (by rw [hf.raw, h0]; decide)).symm)) .nil)))) (holds_of_picks (by with_reducible repeat constructor)))
 ·intro u base
  refine tr_seq ?_
  have hk := sK_lt c x y
  have hf1 : Fit g (bitF c (sK c x y) (xorI (c.neg.getD (y * g.w + x) 0) (sT c x y))) 0 := hf.adv (bitF_adv hf.ok hk _) (by omega)
  refine tr_draww (rem := [0,1,2,3,4,5,6,7,8,9,10,11,12,13,14,15,16,17,18,19,20]) (by kernel_rfl) (by kernel_rfl) rfl ?_
  refine twm 0 [1,2,3,19,20] rfl (by kernel_rfl) rfl rfl (twn 1 [2,3,19,20] rfl (by kernel_rfl) rfl rfl (trw_pure 2 [3,19,20] rfl (by kernel_rfl) rfl (pv_fieldAddr runUnderlying133 rfl sizeOf38 rfl rfl) (twm 4 [19,20] rfl (by kernel_rfl) rfl rfl (twm 5 [16,18,19,20] rfl (by kernel_rfl) rfl rfl (twm 6 [16,18,19,20] rfl (by kernel_rfl) rfl rfl (twm 7 [8,9,10,12,13,15,16,18,19,20] rfl (by kernel_rfl) rfl rfl (twn 8 [9,10,12,13,15,16,18,19,20] rfl (by kernel_rfl) rfl rfl (trw_pure 9 [10,12,13,15,16,18,19,20] rfl (by kernel_rfl) rfl (pv_fieldAddr runUnderlying133 rfl sizeOf38 rfl rfl) (twm 11 [12,13,15,16,18,19,20] rfl (by kernel_rfl) rfl rfl (twm 14 [15,16,18,19,20] rfl (by kernel_rfl) rfl rfl (twm 17 [18,19,20] rfl (by kernel_rfl) rfl rfl (trw_read 3 [19,20] rfl (by kernel_rfl) rfl (rv_cd isAgg38 rfl (by with_reducible repeat constructor) rfl) ?_))))))))))))
  refine trw_read 10 [12,13,15,16,18,19,20] rfl (by kernel_rfl) rfl (rv_cd isAgg38 rfl (by with_reducible repeat constructor) rfl) ?_
  refine trw_pure 12 [13,15,16,18,19,20] rfl (by kernel_rfl) rfl (pv_indexAddr_v runUnderlying38 sizeOf3 rfl rfl hg.n (Int.natCast_nonneg _) (Int.ofNat_lt.2 (by first | assumption | omega))) ?_
  refine trw_read 13 [15,16,18,19,20] rfl (by kernel_rfl) rfl (rv_cdn isAgg3 rfl (by with_reducible repeat constructor) (cdn_at (by assumption) (by first | assumption | omega))) ?_
  refine trw_pure 15 [16,18,19,20] rfl (by kernel_rfl) rfl (pv_xor rfl rfl) (trw_one 16 (by kernel_rfl) ?_)
  refine trwat_eff rfl rfl rfl (ef_call rfl rfl call127 (k_bit hg hf hk) (by with_reducible repeat constructor) fun x67 hx67 => ?_)
  dsimp only [List.cons_append, List.nil_append]
  refine ⟨?_, (rv_cd isAgg38 rfl (by with_reducible repeat constructor) rfl), trivial⟩
  refine trw_pure 18 [19,20] rfl (by kernel_rfl) rfl (pv_xor rfl rfl) (trw_pure 19 [20] rfl (by kernel_rfl) rfl (pv_indexAddr_v runUnderlying38 sizeOf3 rfl rfl hg.n (Int.natCast_nonneg _) (Int.ofNat_lt.2 (by first | assumption | omega))) ?_)
  refine trw_one 20 (by kernel_rfl) ?_
  refine trwat_eff0 rfl rfl rfl (ef_cdn sizeOf3 rfl rfl (by with_reducible repeat constructor) hf1 hc2 ?_)
  refine ⟨?_, trivial⟩
  refine trw_nil ?_
  have hf2 := hf1.putN (y * g.w + x) (xorI (xorI (c.neg.getD (y * g.w + x) 0) (sT c x y)) (sT c x y))
  refine tr_keep (ks := [0,6]) (.cons rfl (.cons rfl .nil)) fun base => ?_
  refine tr_region (tmv rfl (tnc rfl (trl_pv (pv_fieldAddr runUnderlying133 rfl sizeOf123 rfl rfl) (trl_val (rv_cd isAgg123 rfl (by with_reducible repeat constructor) rfl) ?_))))
  refine tmv rfl (trl_pv (pv_indexAddr_v runUnderlying123 sizeOf4 rfl rfl hg.s (Int.natCast_nonneg _) (Int.ofNat_lt.2 hc2)) (trl_eff0 (ef_cds sizeOf4 rfl rfl (by with_reducible repeat constructor) hf2 hc2 ?_)))
  refine trl_nil (tr_keep (ks := []) (.nil) fun base => ?_)
  refine tr_end func123 rfl .nil (by kernel_rfl) .nil () rfl trivial (by rw [← sign_eq hf]; exact holds_of_picks (by with_reducible repeat constructor))
theorem k_mag {g : Cg} {c : Cd} {n i plane k : Nat} (hg : GOk g) (hf : Fit g c n) (hn : 16 ≤ n) (hi : i < g.w * g.h) (hp : plane ≤ 60) (hk : k < 19) :
    Spec Tryz.prog 122 [g.p, .int .i64 (i : Nat), .int .i64 (plane : Nat), .int .i64 (k : Nat)] [CD g c] (fun _ : Unit => ⟨.int .i64 (magB c i plane), True, [CD g (bitF c k (magB c i plane))]⟩) := by
 refine spec_of_tr func122 rfl ntmps122 (by kernel_rfl) ?_
 refine tr_seq (tr_region (tas rfl (trl_nil (tr_seq (tr_region (tmv rfl (tmv rfl (tmv rfl (tnc rfl (trl_pv (pv_fieldAddr runUnderlying133 rfl sizeOf38 rfl rfl) (trl_val (rv_cd isAgg38 rfl (by with_reducible repeat constructor) rfl) ?_)))))))))))
 refine tmv rfl (trl_pv (pv_indexAddr_v runUnderlying38 sizeOf3 rfl rfl hg.m (Int.natCast_nonneg _) (Int.ofNat_lt.2 (by first | assumption | omega))) ?_)
 refine trl_val (rv_cdm isAgg3 rfl (by with_reducible repeat constructor) (cdm_at (by assumption) (by first | assumption | omega))) ?_
 refine tmv rfl (trl_pv (pv_conv (pv_convert runUnderlying3 runUnderlying104 rfl) (congrArg (Value.int .u64) (wrapu64_id (by omega) (by omega)))) ?_)
 refine trl_pv (pv_shrI rfl rfl (by omega) (by omega)) ?_
 refine trl_pv (pv_and rfl rfl) (trl_eff (ef_call rfl rfl call127 (k_bit hg hf hk (b := andI (g.mag.getD i 0 / 2 ^ plane) 1)) (by with_reducible repeat constructor) fun x23 hx23 => ?_))
 dsimp only [List.cons_append, List.nil_append]
 refine tas rfl (trl_nil (tr_keep (ks := [0,1,2,9]) (.cons rfl (.cons rfl (.cons rfl (.cons rfl .nil)))) fun base => ?_))
 refine tr_seq (tr_seq ?_)
 have hfa := bitF_adv hf.ok hk (andI (g.mag.getD i 0 / 2 ^ plane) 1)
 have hf1 : Fit g (bitF c k (andI (g.mag.getD i 0 / 2 ^ plane) 1)) 0 := hf.adv hfa (by omega)
 refine tr_region (tmv rfl (tnc rfl (trl_pv (pv_fieldAddr runUnderlying133 rfl sizeOf4 rfl rfl) (trl_val (rv_cd isAgg4 rfl (by with_reducible repeat constructor) (cd_at10 (by assumption))) ?_))))
 refine trl_pv (pv_not rfl) (trl_nil (tr_else rfl rfl ?_))
 refine tr_skip (tr_seq (tr_region (tmv rfl (tas rfl (trl_nil (tr_keep (ks := [8]) (.cons rfl .nil) fun base => ?_))))))
 refine tr_ret func122 rfl .nil (by kernel_rfl) (.tmp rfl .nil) () (by unfold magB; rw [hf.mag]; rfl) trivial (by unfold magB; rw [hf.mag]; exact holds_of_picks (by with_reducible repeat constructor))
theorem k_significance {g : Cg} {c : Cd} {n0 plane : Nat} (hg : GOk g) (hf : Fit g c n0) (hn : 131200 ≤ n0) (hp : plane ≤ 60) :
    Spec Tryz.prog 101 [g.p, .int .i64 (plane : Nat)] [CD g c] (fun _ : Unit => ⟨.tuple #[], True, [CD g (sigPass plane c)]⟩) := by
 refine spec_of_tr func101 rfl ntmps101 (by kernel_rfl) ?_
 have hw1 := hg.w1
 have hw2 := hg.w2
 have hh1 := hg.h1
 have hh2 := hg.h2
 refine tr_seq (tr_region (tas rfl (trl_nil (tr_block (tr_while (α := Nat × Cd) ((0, c)) (fun x => g.w * g.h - x.1) (fun x => [(0, g.p), (1, .int .i64 (plane : Nat)), (4, .int .i64 (x.1 : Nat))]) (fun x => [pure' (x.1 ≤ g.w * g.h ∧ x.2 = foldN (sigStep plane) c x.1), CD g x.2]) (ks := [0,1,4]) (.cons rfl (.cons rfl (.cons rfl .nil))) (holds_pure ⟨Nat.zero_le _, rfl⟩ (holds_of_picks (by with_reducible repeat constructor))) ?_)))))
 intro ⟨n, c1⟩ base ih0
 refine Tr.pure fun ⟨hn0, hc⟩ => ?_
 dsimp only at hn0 hc ⊢
 have ha : Adv c c1 (32 * n) := by rw [hc]; exact foldN_adv (fun c x hc => sigStep_adv hc plane x) hf.ok n
 have hN := Nat.mul_le_mul hw2 hh2
 have hf1 : Fit g c1 (n0 - 32 * n) := hf.adv ha (by omega)
 refine tr_seq (tr_seq (tr_draww (rem := [0,1,2,3,4,5,6,7,8,9,10]) (by kernel_rfl) (by kernel_rfl) rfl ?_))
 refine twm 0 [10] rfl (by kernel_rfl) rfl rfl (twm 1 [2,3,4,9,10] rfl (by kernel_rfl) rfl rfl (twn 2 [3,4,9,10] rfl (by kernel_rfl) rfl rfl (trw_pure 3 [4,9,10] rfl (by kernel_rfl) rfl (pv_fieldAddr runUnderlying133 rfl sizeOf3 rfl rfl) (twm 5 [6,7,8,9,10] rfl (by kernel_rfl) rfl rfl (twn 6 [7,8,9,10] rfl (by kernel_rfl) rfl rfl (trw_pure 7 [8,9,10] rfl (by kernel_rfl) rfl (pv_fieldAddr runUnderlying133 rfl sizeOf3 rfl rfl) (trw_read 4 [9,10] rfl (by kernel_rfl) rfl (rv_cd isAgg3 rfl (by with_reducible repeat constructor) rfl) ?_)))))))
 refine trw_read 8 [9,10] rfl (by kernel_rfl) rfl (rv_cd isAgg3 rfl (by with_reducible repeat constructor) rfl) ?_
 refine trw_pure 9 [10] rfl (by kernel_rfl) rfl (pv_conv (pv_mulI rfl rfl (by omega) (by omega)) (congrArg (Value.int .i64) (show (g.w : Int) * (g.h : Int) = ((g.w * g.h : Nat) : Int) from by simp))) ?_
 refine trw_pure 10 [] rfl (by kernel_rfl) rfl (pv_lss rfl rfl) (trw_nil (tr_keep (ks := [0,1,4,19]) (.cons rfl (.cons rfl (.cons rfl (.cons rfl .nil)))) fun base => ?_))
 refine tr_if rfl (fun h0 => ?_) (fun h0 => ?_)
 ·refine tr_skip (tr_seq (tr_block (tr_seq ?_)))
  have hlt : n < g.w * g.h := by omega
  obtain ⟨hX, hY⟩ := scan_ok hlt
  have eX : xOf c1 n = scanX g.w g.h n := by unfold xOf; rw [hf1.w, hf1.h]
  have eY : yOf c1 n = scanY g.w g.h n := by unfold yOf; rw [hf1.w, hf1.h]
  have eI : iOf c1 n = scanY g.w g.h n * g.w + scanX g.w g.h n := by unfold iOf; rw [eX, eY, hf1.w]
  have hAT := c_at (n := n) hw2 hh2 hlt
  generalize scanX g.w g.h n = X at *
  generalize scanY g.w g.h n = Y at *
  obtain ⟨hc1, hc2, hc3⟩ := cell_lt hw2 hh2 hX hY
  refine tr_draww (rem := [0,1,2,3,4,5,6,7,8,9,10,11,12,13,14]) (by kernel_rfl) (by kernel_rfl) rfl ?_
  refine twm 0 [1,2,3,9,10,11,12,13,14] rfl (by kernel_rfl) rfl rfl (twn 1 [2,3,9,10,11,12,13,14] rfl (by kernel_rfl) rfl rfl (trw_pure 2 [3,9,10,11,12,13,14] rfl (by kernel_rfl) rfl (pv_fieldAddr runUnderlying133 rfl sizeOf3 rfl rfl) (twm 4 [5,6,7,9,10,11,12,13,14] rfl (by kernel_rfl) rfl rfl (twn 5 [6,7,9,10,11,12,13,14] rfl (by kernel_rfl) rfl rfl (trw_pure 6 [7,9,10,11,12,13,14] rfl (by kernel_rfl) rfl (pv_fieldAddr runUnderlying133 rfl sizeOf3 rfl rfl) (twm 8 [9,10,11,12,13,14] rfl (by kernel_rfl) rfl rfl (trw_read 3 [9,10,11,12,13,14] rfl (by kernel_rfl) rfl (rv_cd isAgg3 rfl (by with_reducible repeat constructor) rfl) ?_)))))))
  refine trw_read 7 [9,10,11,12,13,14] rfl (by kernel_rfl) rfl (rv_cd isAgg3 rfl (by with_reducible repeat constructor) rfl) ?_
  refine trw_one 9 (by kernel_rfl) ?_
  refine trwat_eff rfl rfl rfl (ef_call rfl rfl call120 (hAT) (by with_reducible repeat constructor) fun x32 hx32 => ?_)
  dsimp only [List.cons_append, List.nil_append]
  refine ⟨?_, trivial⟩
  refine twm 10 [11,12,13,14] rfl (by kernel_rfl) rfl rfl (trw_pure 11 [13,14] rfl (by kernel_rfl) rfl (pv_extract rfl rfl) (trw_pure 12 [14] rfl (by kernel_rfl) rfl (pv_extract rfl rfl) (trw_pure 13 [14] rfl (by kernel_rfl) rfl (pv_assign rfl) (trw_pure 14 [] rfl (by kernel_rfl) rfl (pv_assign rfl) (trw_nil (tr_keep (ks := [0,1,4,5,6]) (.cons rfl (.cons rfl (.cons rfl (.cons rfl (.cons rfl .nil))))) fun base => ?_))))))
  refine tr_seq (tr_region (tmv rfl (tmv rfl (tnc rfl (trl_pv (pv_fieldAddr runUnderlying133 rfl sizeOf3 rfl rfl) (trl_val (rv_cd isAgg3 rfl (by with_reducible repeat constructor) rfl) ?_))))))
  refine trl_pv (pv_conv (pv_mulI rfl rfl (by omega) (by omega)) (congrArg (Value.int .i64) (show (Y : Int) * (g.w : Int) = ((Y * g.w : Nat) : Int) from by simp))) ?_
  refine tmv rfl (trl_pv (pv_conv (pv_addI rfl rfl (by omega) (by omega)) (congrArg (Value.int .i64) (show ((Y * g.w : Nat) : Int) + (X : Int) = ((Y * g.w + X : Nat) : Int) from by omega))) ?_)
  refine tas rfl (trl_nil (tr_keep (ks := [0,1,4,5,6,7]) (.cons rfl (.cons rfl (.cons rfl (.cons rfl (.cons rfl (.cons rfl .nil)))))) fun base => ?_))
  refine tr_seq (tr_region (tmv rfl (tmv rfl (tmv rfl (trl_eff (ef_call rfl rfl call121 (k_zero hg hf1 hX hY) (by with_reducible repeat constructor) fun x46 hx46 => ?_))))))
  dsimp only [List.cons_append, List.nil_append]
  refine trl_pv (pv_conv (pv_assign rfl) (congrArg (Value.int .i64) (show ctxZ c1 X Y = (((ctxZ c1 X Y).toNat : Nat) : Int) from by have := ctxZ_ok c1 X Y; omega))) (trl_nil ?_)
  have hz := ctxZ_ok c1 X Y
  have hkz := ctxZ_lt c1 X Y
  have eK : (((ctxZ c1 X Y).toNat : Nat) : Int) = ctxZ c1 X Y := by omega
  have hadv := sigStep_adv hf1.ok plane n
  refine tr_seq (tr_seq (tr_region (tmv rfl (tnc rfl (trl_pv (pv_fieldAddr runUnderlying133 rfl sizeOf123 rfl rfl) (trl_val (rv_cd isAgg123 rfl (by with_reducible repeat constructor) rfl) ?_))))))
  refine tmv rfl (trl_pv (pv_indexAddr_v runUnderlying123 sizeOf4 rfl rfl hg.s (Int.natCast_nonneg _) (Int.ofNat_lt.2 hc2)) (trl_val (rv_cds isAgg4 rfl (by with_reducible repeat constructor) (cds_at hf1 hc2)) ?_))
  refine tmv rfl (trl_splitb 7 rfl (fun g54 => ?_) (fun g54 => ?_))
  ·refine trl_not rfl g54 ?_
   refine trl_not rfl g54 ?_
   refine trl_pv (pv_pick_t rfl g54 rfl) (trl_nil (tr_keep (ks := [0,1,4,5,6,7,8,57]) (.cons rfl (.cons rfl (.cons rfl (.cons rfl (.cons rfl (.cons rfl (.cons rfl (.cons rfl .nil)))))))) fun base => ?_))
   refine tr_then rfl rfl ?_
   refine tr_exit rfl (tr_region (tmv rfl (trl_pv (pv_addI rfl rfl (by omega) (by omega)) ?_)))
   refine tas rfl (trl_nil (tr_keep (ks := [0,1,4]) (.cons rfl (.cons rfl (.cons rfl .nil))) fun base => ?_))
   refine tr_again ih0 (n + 1, c1) (by first | omega | (dsimp only; omega)) (.cons rfl (.cons rfl (.cons rfl .nil))) (holds_pure ⟨by dsimp only; omega, by dsimp only; rw [foldN_succ, ← hc]; exact (if_pos (by rw [eI, eX, eY]; exact .inl g54)).symm⟩ (holds_of_picks (by with_reducible repeat constructor)))
  ·refine trl_pvg rfl g54 (pv_move rfl) ?_
   refine trl_pvg rfl g54 (pv_eql rfl rfl) ?_
   refine trl_pv (pv_pick_f rfl g54 rfl) (trl_nil (tr_keep (ks := [0,1,4,5,6,7,8,57]) (.cons rfl (.cons rfl (.cons rfl (.cons rfl (.cons rfl (.cons rfl (.cons rfl (.cons rfl .nil)))))))) fun base => ?_))
   refine tr_if rfl (fun h1 => ?_) (fun h1 => ?_)
   ·refine tr_exit rfl (tr_region (tmv rfl (trl_pv (pv_addI rfl rfl (by omega) (by omega)) ?_)))
    refine tas rfl (trl_nil (tr_keep (ks := [0,1,4]) (.cons rfl (.cons rfl (.cons rfl .nil))) fun base => ?_))
    refine tr_again ih0 (n + 1, c1) (by first | omega | (dsimp only; omega)) (.cons rfl (.cons rfl (.cons rfl .nil))) (holds_pure ⟨by dsimp only; omega, by dsimp only; rw [foldN_succ, ← hc]; exact (if_pos (by rw [eI, eX, eY]; exact .inr (by omega))).symm⟩ (holds_of_picks (by with_reducible repeat constructor)))
   ·refine tr_skip (tr_seq (tr_seq ?_))
    have hno : ¬ (c1.sig.getD (iOf c1 n) false = true ∨ ctxZ c1 (xOf c1 n) (yOf c1 n) = 0) := by rw [eI, eX, eY]; rintro (h | h) <;> first | exact h1 (by omega) | (rw [g54] at h; cases h)
    have hst : sigStep plane c1 n = putE (sayBit c1 X Y plane (ctxZ c1 X Y).toNat) ((sayBit c1 X Y plane (ctxZ c1 X Y).toNat).seen.set (Y * g.w + X) true) := by unfold sigStep; rw [if_neg hno, eI, eX, eY]; rfl
    refine tr_region (tmv rfl (tmv rfl (tmv rfl (tmv rfl (trl_eff (ef_call rfl rfl call122 (k_mag (k := (ctxZ c1 X Y).toNat) hg hf1 (by omega) hc2 hp hkz) (by with_reducible repeat constructor) fun x62 hx62 => ?_))))))
    dsimp only [List.cons_append, List.nil_append]
    refine trl_pv (pv_eql rfl rfl) (trl_nil (tr_keep (ks := [0,1,4,5,6,7,63]) (.cons rfl (.cons rfl (.cons rfl (.cons rfl (.cons rfl (.cons rfl (.cons rfl .nil))))))) fun base => ?_))
    refine tr_join (α := Unit) (fun _ => [(0, g.p), (1, .int .i64 (plane : Nat)), (4, .int .i64 (n : Nat)), (7, .int .i64 ((Y * g.w + X : Nat) : Int))]) (fun _ => [CD g (sayBit c1 X Y plane (ctxZ c1 X Y).toNat)]) (fun K2 hK2 => ?_) ?_
    ·refine tr_if rfl (fun h2 => ?_) (fun h2 => ?_)
     ·have hf3 : Fit g (bitF c1 (ctxZ c1 X Y).toNat (magB c1 (Y * g.w + X) plane)) 16 := hf1.adv (bitF_adv hf1.ok hkz _) (by omega)
      refine tr_region (tmv rfl (tmv rfl (tmv rfl (trl_eff (ef_call rfl rfl call123 (k_sign hg hf3 (by omega) hX hY) (by with_reducible repeat constructor) fun x67 hx67 => ?_)))))
      dsimp only [List.cons_append, List.nil_append]
      refine trl_nil (tr_keep (ks := [0,1,4,7]) (.cons rfl (.cons rfl (.cons rfl (.cons rfl .nil)))) fun base => ?_)
      refine tr_meet hK2 () (.cons rfl (.cons rfl (.cons rfl (.cons rfl .nil)))) (by rw [show sayBit c1 X Y plane (ctxZ c1 X Y).toNat = signF (bitF c1 (ctxZ c1 X Y).toNat (magB c1 (Y * g.w + X) plane)) X Y from by unfold sayBit; rw [hf1.w, if_pos h2]]; exact holds_of_picks (by with_reducible repeat constructor))
     ·refine tr_skip (tr_meet hK2 () (.cons rfl (.cons rfl (.cons rfl (.cons rfl .nil)))) (by rw [show sayBit c1 X Y plane (ctxZ c1 X Y).toNat = bitF c1 (ctxZ c1 X Y).toNat (magB c1 (Y * g.w + X) plane) from by unfold sayBit; rw [hf1.w, if_neg h2]]; exact holds_of_picks (by with_reducible repeat constructor)))
    ·intro u base
     have hf2 : Fit g (sayBit c1 X Y plane (ctxZ c1 X Y).toNat) 0 := hf1.adv (sayBit_adv hf1.ok hkz X Y plane) (by omega)
     refine tr_region (tmv rfl (tnc rfl (trl_pv (pv_fieldAddr runUnderlying133 rfl sizeOf123 rfl rfl) (trl_val (rv_cd isAgg123 rfl (by with_reducible repeat constructor) rfl) ?_))))
     refine tmv rfl (trl_pv (pv_indexAddr_v runUnderlying123 sizeOf4 rfl rfl hg.e (Int.natCast_nonneg _) (Int.ofNat_lt.2 hc2)) (trl_eff0 (ef_cde sizeOf4 rfl rfl (by with_reducible repeat constructor) hf2 hc2 ?_)))
     refine trl_nil (tr_keep (ks := [0,1,4]) (.cons rfl (.cons rfl (.cons rfl .nil))) fun base => ?_)
     refine tr_inBlock (tr_region (tmv rfl (trl_pv (pv_addI rfl rfl (by omega) (by omega)) ?_)))
     refine tas rfl (trl_nil (tr_again ih0 (n + 1, sigStep plane c1 n) (by first | omega | (dsimp only; omega)) (.cons rfl (.cons rfl (.cons rfl .nil))) (by rw [hst]; exact holds_pure ⟨by dsimp only; omega, by dsimp only; rw [foldN_succ, ← hc, hst]⟩ (holds_of_picks (by with_reducible repeat constructor)))))
 ·refine tr_exit rfl ?_
  obtain rfl : n = g.w * g.h := by omega
  refine tr_end func101 rfl .nil (by kernel_rfl) .nil () rfl trivial (by rw [show sigPass plane c = c1 from by rw [hc]; unfold sigPass foldN; rw [hf.w, hf.h]]; exact holds_of_picks (by with_reducible repeat constructor))
theorem x_refine' {b : Bool} {n : Int} : Spec Tryz.prog 125 [.bool b, .int .i64 n] [] (fun _ : Unit => ⟨.int .i64 (((refineK b n).toNat : Nat) : Int), True, []⟩) :=
  Spec.mono x_refine fun x h => ⟨(), by show Value.int .i64 _ = Value.int .i64 _; have := refineK_ok b n; congr 1; omega, h, fun _ _ h => h⟩
theorem k_refinement {g : Cg} {c : Cd} {n0 plane : Nat} (hg : GOk g) (hf : Fit g c n0) (hn : 131200 ≤ n0) (hp : plane ≤ 60) :
    Spec Tryz.prog 102 [g.p, .int .i64 (plane : Nat)] [CD g c] (fun _ : Unit => ⟨.tuple #[], True, [CD g (refPass plane c)]⟩) := by
 refine spec_of_tr func102 rfl ntmps102 (by kernel_rfl) ?_
 have hw1 := hg.w1
 have hw2 := hg.w2
 have hh1 := hg.h1
 have hh2 := hg.h2
 refine tr_seq (tr_region (tas rfl (trl_nil (tr_block (tr_while (α := Nat × Cd) ((0, c)) (fun x => g.w * g.h - x.1) (fun x => [(0, g.p), (1, .int .i64 (plane : Nat)), (4, .int .i64 (x.1 : Nat))]) (fun x => [pure' (x.1 ≤ g.w * g.h ∧ x.2 = foldN (refStep plane) c x.1), CD g x.2]) (ks := [0,1,4]) (.cons rfl (.cons rfl (.cons rfl .nil))) (holds_pure ⟨Nat.zero_le _, rfl⟩ (holds_of_picks (by with_reducible repeat constructor))) ?_)))))
 intro ⟨n, c1⟩ base ih0
 refine Tr.pure fun ⟨hn0, hc⟩ => ?_
 dsimp only at hn0 hc ⊢
 have ha : Adv c c1 (32 * n) := by rw [hc]; exact foldN_adv (fun c x hc => refStep_adv hc plane x) hf.ok n
 have hN := Nat.mul_le_mul hw2 hh2
 have hf1 : Fit g c1 (n0 - 32 * n) := hf.adv ha (by omega)
 refine tr_seq (tr_seq (tr_draww (rem := [0,1,2,3,4,5,6,7,8,9,10]) (by kernel_rfl) (by kernel_rfl) rfl ?_))
 refine twm 0 [10] rfl (by kernel_rfl) rfl rfl (twm 1 [2,3,4,9,10] rfl (by kernel_rfl) rfl rfl (twn 2 [3,4,9,10] rfl (by kernel_rfl) rfl rfl (trw_pure 3 [4,9,10] rfl (by kernel_rfl) rfl (pv_fieldAddr runUnderlying133 rfl sizeOf3 rfl rfl) (twm 5 [6,7,8,9,10] rfl (by kernel_rfl) rfl rfl (twn 6 [7,8,9,10] rfl (by kernel_rfl) rfl rfl (trw_pure 7 [8,9,10] rfl (by kernel_rfl) rfl (pv_fieldAddr runUnderlying133 rfl sizeOf3 rfl rfl) (trw_read 4 [9,10] rfl (by kernel_rfl) rfl (rv_cd isAgg3 rfl (by with_reducible repeat constructor) rfl) ?_)))))))
 refine trw_read 8 [9,10] rfl (by kernel_rfl) rfl (rv_cd isAgg3 rfl (by with_reducible repeat constructor) rfl) ?_
 refine trw_pure 9 [10] rfl (by kernel_rfl) rfl (pv_conv (pv_mulI rfl rfl (by omega) (by omega)) (congrArg (Value.int .i64) (show (g.w : Int) * (g.h : Int) = ((g.w * g.h : Nat) : Int) from by simp))) ?_
 refine trw_pure 10 [] rfl (by kernel_rfl) rfl (pv_lss rfl rfl) (trw_nil (tr_keep (ks := [0,1,4,21]) (.cons rfl (.cons rfl (.cons rfl (.cons rfl .nil)))) fun base => ?_))
 refine tr_if rfl (fun h0 => ?_) (fun h0 => ?_)
 ·refine tr_skip (tr_seq (tr_block (tr_seq ?_)))
  have hlt : n < g.w * g.h := by omega
  obtain ⟨hX, hY⟩ := scan_ok hlt
  have eX : xOf c1 n = scanX g.w g.h n := by unfold xOf; rw [hf1.w, hf1.h]
  have eY : yOf c1 n = scanY g.w g.h n := by unfold yOf; rw [hf1.w, hf1.h]
  have eI : iOf c1 n = scanY g.w g.h n * g.w + scanX g.w g.h n := by unfold iOf; rw [eX, eY, hf1.w]
  have hAT := c_at (n := n) hw2 hh2 hlt
  generalize scanX g.w g.h n = X at *
  generalize scanY g.w g.h n = Y at *
  obtain ⟨hc1, hc2, hc3⟩ := cell_lt hw2 hh2 hX hY
  refine tr_draww (rem := [0,1,2,3,4,5,6,7,8,9,10,11,12,13,14]) (by kernel_rfl) (by kernel_rfl) rfl ?_
  refine twm 0 [1,2,3,9,10,11,12,13,14] rfl (by kernel_rfl) rfl rfl (twn 1 [2,3,9,10,11,12,13,14] rfl (by kernel_rfl) rfl rfl (trw_pure 2 [3,9,10,11,12,13,14] rfl (by kernel_rfl) rfl (pv_fieldAddr runUnderlying133 rfl sizeOf3 rfl rfl) (twm 4 [5,6,7,9,10,11,12,13,14] rfl (by kernel_rfl) rfl rfl (twn 5 [6,7,9,10,11,12,13,14] rfl (by kernel_rfl) rfl rfl (trw_pure 6 [7,9,10,11,12,13,14] rfl (by kernel_rfl) rfl (pv_fieldAddr runUnderlying133 rfl sizeOf3 rfl rfl) (twm 8 [9,10,11,12,13,14] rfl (by kernel_rfl) rfl rfl (trw_read 3 [9,10,11,12,13,14] rfl (by kernel_rfl) rfl (rv_cd isAgg3 rfl (by with_reducible repeat constructor) rfl) ?_)))))))
  refine trw_read 7 [9,10,11,12,13,14] rfl (by kernel_rfl) rfl (rv_cd isAgg3 rfl (by with_reducible repeat constructor) rfl) ?_
  refine trw_one 9 (by kernel_rfl) ?_
  refine trwat_eff rfl rfl rfl (ef_call rfl rfl call120 (hAT) (by with_reducible repeat constructor) fun x34 hx34 => ?_)
  dsimp only [List.cons_append, List.nil_append]
  refine ⟨?_, trivial⟩
  refine twm 10 [11,12,13,14] rfl (by kernel_rfl) rfl rfl (trw_pure 11 [13,14] rfl (by kernel_rfl) rfl (pv_extract rfl rfl) (trw_pure 12 [14] rfl (by kernel_rfl) rfl (pv_extract rfl rfl) (trw_pure 13 [14] rfl (by kernel_rfl) rfl (pv_assign rfl) (trw_pure 14 [] rfl (by kernel_rfl) rfl (pv_assign rfl) (trw_nil (tr_keep (ks := [0,1,4,5,6]) (.cons rfl (.cons rfl (.cons rfl (.cons rfl (.cons rfl .nil))))) fun base => ?_))))))
  refine tr_seq (tr_region (tmv rfl (tmv rfl (tnc rfl (trl_pv (pv_fieldAddr runUnderlying133 rfl sizeOf3 rfl rfl) (trl_val (rv_cd isAgg3 rfl (by with_reducible repeat constructor) rfl) ?_))))))
  refine trl_pv (pv_conv (pv_mulI rfl rfl (by omega) (by omega)) (congrArg (Value.int .i64) (show (Y : Int) * (g.w : Int) = ((Y * g.w : Nat) : Int) from by simp))) ?_
  refine tmv rfl (trl_pv (pv_conv (pv_addI rfl rfl (by omega) (by omega)) (congrArg (Value.int .i64) (show ((Y * g.w : Nat) : Int) + (X : Int) = ((Y * g.w + X : Nat) : Int) from by omega))) ?_)
  refine tas rfl (trl_nil (tr_keep (ks := [0,1,4,5,6,7]) (.cons rfl (.cons rfl (.cons rfl (.cons rfl (.cons rfl (.cons rfl .nil)))))) fun base => ?_))
  refine tr_seq (tr_seq (tr_region (tmv rfl (tnc rfl (trl_pv (pv_fieldAddr runUnderlying133 rfl sizeOf123 rfl rfl) (trl_val (rv_cd isAgg123 rfl (by with_reducible repeat constructor) rfl) ?_))))))
  refine tmv rfl (trl_pv (pv_indexAddr_v runUnderlying123 sizeOf4 rfl rfl hg.s (Int.natCast_nonneg _) (Int.ofNat_lt.2 hc2)) (trl_val (rv_cds isAgg4 rfl (by with_reducible repeat constructor) (cds_at hf1 hc2)) ?_))
  refine trl_pv (pv_not rfl) (tmv rfl (trl_splitb 8 rfl (fun g53 => ?_) (fun g53 => ?_)))
  ·refine trl_not rfl g53 ?_
   refine trl_not rfl g53 ?_
   refine trl_not rfl g53 ?_
   refine trl_not rfl g53 ?_
   refine trl_not rfl g53 ?_
   refine trl_not rfl g53 ?_
   refine trl_not rfl g53 ?_
   refine trl_pv (pv_pick_t rfl g53 rfl) (trl_nil (tr_keep (ks := [0,1,4,5,6,7,61]) (.cons rfl (.cons rfl (.cons rfl (.cons rfl (.cons rfl (.cons rfl (.cons rfl .nil))))))) fun base => ?_))
   refine tr_then rfl rfl ?_
   refine tr_exit rfl (tr_region (tmv rfl (trl_pv (pv_addI rfl rfl (by omega) (by omega)) ?_)))
   refine tas rfl (trl_nil (tr_again ih0 (n + 1, c1) (by first | omega | (dsimp only; omega)) (.cons rfl (.cons rfl (.cons rfl .nil))) (holds_pure ⟨by dsimp only; omega, by dsimp only; rw [foldN_succ, ← hc]; exact (if_pos (by rw [eI]; exact .inl (by simpa using g53))).symm⟩ (holds_of_picks (by with_reducible repeat constructor)))))
  ·refine trl_pvg rfl g53 (pv_move rfl) ?_
   refine trl_pvg rfl g53 (pv_nilCheck rfl) ?_
   refine trl_pvg rfl g53 (pv_fieldAddr runUnderlying133 rfl sizeOf123 rfl rfl) ?_
   refine trl_valg rfl g53 (rv_cd isAgg123 rfl (by with_reducible repeat constructor) rfl) ?_
   refine trl_pvg rfl g53 (pv_move rfl) ?_
   refine trl_pvg rfl g53 (pv_indexAddr_v runUnderlying123 sizeOf4 rfl rfl hg.e (Int.natCast_nonneg _) (Int.ofNat_lt.2 hc2)) ?_
   refine trl_valg rfl g53 (rv_cde isAgg4 rfl (by with_reducible repeat constructor) (cde_at hf1 hc2)) ?_
   refine trl_pv (pv_pick_f rfl g53 rfl) (trl_nil (tr_keep (ks := [0,1,4,5,6,7,61]) (.cons rfl (.cons rfl (.cons rfl (.cons rfl (.cons rfl (.cons rfl (.cons rfl .nil))))))) fun base => ?_))
   refine tr_ifb rfl (fun h1 => ?_) (fun h1 => ?_)
   ·refine tr_exit rfl (tr_region (tmv rfl (trl_pv (pv_addI rfl rfl (by omega) (by omega)) ?_)))
    refine tas rfl (trl_nil (tr_again ih0 (n + 1, c1) (by first | omega | (dsimp only; omega)) (.cons rfl (.cons rfl (.cons rfl .nil))) (holds_pure ⟨by dsimp only; omega, by dsimp only; rw [foldN_succ, ← hc]; exact (if_pos (by rw [eI]; exact .inr h1)).symm⟩ (holds_of_picks (by with_reducible repeat constructor)))))
   ·refine tr_skip (tr_seq ?_)
    have hb := a_le c1 X Y
    have hno : ¬ (c1.sig.getD (iOf c1 n) false = false ∨ c1.seen.getD (iOf c1 n) false = true) := by rw [eI]; rintro (h | h) <;> first | (rw [h] at h1; cases h1) | (rw [h] at g53; cases g53)
    have hst : refStep plane c1 n = putA (bitF c1 (refineK (!c1.again.getD (Y * g.w + X) false) (aH c1 X Y + aV c1 X Y + aD c1 X Y)).toNat (magB c1 (Y * g.w + X) plane)) ((bitF c1 (refineK (!c1.again.getD (Y * g.w + X) false) (aH c1 X Y + aV c1 X Y + aD c1 X Y)).toNat (magB c1 (Y * g.w + X) plane)).again.set (Y * g.w + X) true) := by unfold refStep; rw [if_neg hno, eI, eX, eY, (bitF_same c1 _ _).2.2.2]; rfl
    have hkz : (refineK (!c1.again.getD (Y * g.w + X) false) (aH c1 X Y + aV c1 X Y + aD c1 X Y)).toNat < 19 := by have := refineK_ok (!c1.again.getD (Y * g.w + X) false) (aH c1 X Y + aV c1 X Y + aD c1 X Y); omega
    have hf2 : Fit g (bitF c1 (refineK (!c1.again.getD (Y * g.w + X) false) (aH c1 X Y + aV c1 X Y + aD c1 X Y)).toNat (magB c1 (Y * g.w + X) plane)) 0 := hf1.adv (bitF_adv hf1.ok hkz _) (by omega)
    refine tr_region (tmv rfl (tmv rfl (tmv rfl (trl_eff (ef_call rfl rfl call124 (k_around hg hf1 hX hY) (by with_reducible repeat constructor) fun x66 hx66 => ?_)))))
    dsimp only [List.cons_append, List.nil_append]
    refine tmv rfl (trl_pv (pv_extract rfl rfl) (trl_pv (pv_extract rfl rfl) (trl_pv (pv_extract rfl rfl) (tas rfl (tas rfl (tas rfl (trl_nil (tr_keep (ks := [0,1,4,7,8,9,10]) (.cons rfl (.cons rfl (.cons rfl (.cons rfl (.cons rfl (.cons rfl (.cons rfl .nil))))))) fun base => ?_))))))))
    refine tr_seq (tr_region (tmv rfl (tmv rfl (tmv rfl (tmv rfl (tnc rfl (trl_pv (pv_fieldAddr runUnderlying133 rfl sizeOf123 rfl rfl) (trl_val (rv_cd isAgg123 rfl (by with_reducible repeat constructor) rfl) ?_))))))))
    refine tmv rfl (trl_pv (pv_indexAddr_v runUnderlying123 sizeOf4 rfl rfl hg.a (Int.natCast_nonneg _) (Int.ofNat_lt.2 hc2)) (trl_val (rv_cda isAgg4 rfl (by with_reducible repeat constructor) (cda_at hf1 hc2)) ?_))
    refine trl_pv (pv_not rfl) (tmv rfl (tmv rfl (trl_pv (pv_addI rfl rfl (by omega) (by omega)) ?_)))
    refine tmv rfl (trl_pv (pv_addI rfl rfl (by omega) (by omega)) ?_)
    refine trl_eff (ef_call rfl rfl call125 (x_refine') (by with_reducible repeat constructor) fun x86 hx86 => ?_)
    dsimp only [List.cons_append, List.nil_append]
    refine trl_eff (ef_call rfl rfl call122 (k_mag (k := (refineK (!c1.again.getD (Y * g.w + X) false) (aH c1 X Y + aV c1 X Y + aD c1 X Y)).toNat) hg hf1 (by omega) hc2 hp hkz) (by with_reducible repeat constructor) fun x87 hx87 => ?_)
    dsimp only [List.cons_append, List.nil_append]
    refine trl_nil (tr_keep (ks := [0,1,4,7]) (.cons rfl (.cons rfl (.cons rfl (.cons rfl .nil)))) fun base => ?_)
    refine tr_region (tmv rfl (tnc rfl (trl_pv (pv_fieldAddr runUnderlying133 rfl sizeOf123 rfl rfl) (trl_val (rv_cd isAgg123 rfl (by with_reducible repeat constructor) rfl) ?_))))
    refine tmv rfl (trl_pv (pv_indexAddr_v runUnderlying123 sizeOf4 rfl rfl hg.a (Int.natCast_nonneg _) (Int.ofNat_lt.2 hc2)) (trl_eff0 (ef_cda sizeOf4 rfl rfl (by with_reducible repeat constructor) hf2 hc2 ?_)))
    refine trl_nil (tr_keep (ks := [0,1,4]) (.cons rfl (.cons rfl (.cons rfl .nil))) fun base => ?_)
    refine tr_inBlock (tr_region (tmv rfl (trl_pv (pv_addI rfl rfl (by omega) (by omega)) ?_)))
    refine tas rfl (trl_nil (tr_again ih0 (n + 1, refStep plane c1 n) (by first | omega | (dsimp only; omega)) (.cons rfl (.cons rfl (.cons rfl .nil))) (by rw [hst]; exact holds_pure ⟨by dsimp only; omega, by dsimp only; rw [foldN_succ, ← hc, hst]⟩ (holds_of_picks (by with_reducible repeat constructor)))))
 ·refine tr_exit rfl ?_
  obtain rfl : n = g.w * g.h := by omega
  refine tr_end func102 rfl .nil (by kernel_rfl) .nil () rfl trivial (by rw [show refPass plane c = c1 from by rw [hc]; unfold refPass foldN; rw [hf.w, hf.h]]; exact holds_of_picks (by with_reducible repeat constructor))
theorem k_blank {g : Cg} {c : Cd} {n x y : Nat} (hg : GOk g) (hf : Fit g c n) (hx : x < g.w) (hy : y < g.h) :
    Spec Tryz.prog 134 [g.p, .int .i64 (x : Nat), .int .i64 (y : Nat)] [CD g c] (fun _ : Unit => ⟨.bool (blankF c x y), True, [CD g c]⟩) := by
 refine spec_of_tr func134 rfl ntmps134 (by kernel_rfl) ?_
 have hw1 := hg.w1
 have hw2 := hg.w2
 have hh1 := hg.h1
 have hh2 := hg.h2
 refine tr_seq (tr_region (tas rfl (trl_nil (tr_seq (tr_seq (tr_region (tmv rfl (tnc rfl (trl_pv (pv_fieldAddr runUnderlying133 rfl sizeOf3 rfl rfl) (trl_val (rv_cd isAgg3 rfl (by with_reducible repeat constructor) rfl) ?_))))))))))
 refine tmv rfl (trl_pv (pv_subI rfl rfl (by omega) (by omega)) ?_)
 refine trl_pv (pv_lss rfl rfl) (trl_nil (tr_keep (ks := [0,1,2,15]) (.cons rfl (.cons rfl (.cons rfl (.cons rfl .nil)))) fun base => ?_))
 refine tr_if rfl (fun h0 => ?_) (fun h0 => ?_)
 ·refine tr_seq (tr_region (tas rfl (trl_nil (tr_ret func134 rfl .nil (by kernel_rfl) (.tmp rfl .nil) () (by rw [show blankF c x y = false from by unfold blankF; rw [hf.h, decide_eq_false (show ¬ (4 : Int) ≤ (g.h : Int) - y by omega)]; rfl]; rfl) trivial (holds_of_picks (by with_reducible repeat constructor))))))
 ·refine tr_skip (tr_seq (tr_seq (tr_region (tas rfl (trl_nil (tr_block (tr_while (α := Nat) (0) (fun j => 4 - j) (fun j => [(0, g.p), (1, .int .i64 (x : Nat)), (2, .int .i64 (y : Nat)), (7, .int .i64 (j : Nat))]) (fun j => [pure' (j ≤ 4 ∧ (List.range j).all (blankAt c x y) = true), CD g c]) (ks := [0,1,2,7]) (.cons rfl (.cons rfl (.cons rfl (.cons rfl .nil)))) (holds_pure ⟨Nat.zero_le _, rfl⟩ (holds_of_picks (by with_reducible repeat constructor))) ?_)))))))
  intro j base ih0
  refine Tr.pure fun ⟨hj, hal⟩ => ?_
  have hbl : blankF c x y = (List.range 4).all (blankAt c x y) := by unfold blankF; rw [hf.h, decide_eq_true (show (4 : Int) ≤ (g.h : Int) - y by omega)]; rfl
  refine tr_seq (tr_seq (tr_region (tmv rfl (trl_pv (pv_lss rfl rfl) (trl_nil (tr_if rfl (fun h1 => ?_) (fun h1 => ?_)))))))
  ·refine tr_skip (tr_seq (tr_block (tr_seq ?_)))
   have hj4 : j < 4 := by omega
   obtain ⟨hc1, hc2, hc3⟩ := cell_lt (y := y + j) hw2 hh2 hx (by omega)
   have hbad : blankAt c x y j = false → blankF c x y = false := fun h => by rw [hbl, List.all_eq_false]; exact ⟨j, by simpa using hj4, by rw [h]; decide⟩
   have hgood : blankAt c x y j = true → (List.range (j + 1)).all (blankAt c x y) = true := fun h => by rw [List.range_succ, List.all_append, hal]; simp [h]
   refine tr_region (tmv rfl (tmv rfl (trl_pv (pv_conv (pv_addI rfl rfl (by omega) (by omega)) (congrArg (Value.int .i64) (show (y : Int) + (j : Int) = ((y + j : Nat) : Int) from by omega))) ?_)))
   refine tmv rfl (tnc rfl (trl_pv (pv_fieldAddr runUnderlying133 rfl sizeOf3 rfl rfl) (trl_val (rv_cd isAgg3 rfl (by with_reducible repeat constructor) rfl) ?_)))
   refine trl_pv (pv_conv (pv_mulI rfl rfl (by omega) (by omega)) (congrArg (Value.int .i64) (show ((y + j : Nat) : Int) * (g.w : Int) = (((y + j) * g.w : Nat) : Int) from by simp))) ?_
   refine tmv rfl (trl_pv (pv_conv (pv_addI rfl rfl (by omega) (by omega)) (congrArg (Value.int .i64) (show (((y + j) * g.w : Nat) : Int) + (x : Int) = (((y + j) * g.w + x : Nat) : Int) from by omega))) ?_)
   refine tas rfl (trl_nil (tr_keep (ks := [0,1,2,7,8]) (.cons rfl (.cons rfl (.cons rfl (.cons rfl (.cons rfl .nil))))) fun base => ?_))
   refine tr_seq (tr_region (tmv rfl (tnc rfl (trl_pv (pv_fieldAddr runUnderlying133 rfl sizeOf123 rfl rfl) (trl_val (rv_cd isAgg123 rfl (by with_reducible repeat constructor) rfl) ?_)))))
   refine tmv rfl (trl_pv (pv_indexAddr_v runUnderlying123 sizeOf4 rfl rfl hg.s (Int.natCast_nonneg _) (Int.ofNat_lt.2 hc2)) (trl_val (rv_cds isAgg4 rfl (by with_reducible repeat constructor) (cds_at hf hc2)) ?_))
   refine tmv rfl (trl_splitb 7 rfl (fun g37 => ?_) (fun g37 => ?_))
   ·refine trl_not rfl g37 ?_
    refine trl_not rfl g37 ?_
    refine trl_not rfl g37 ?_
    refine trl_not rfl g37 ?_
    refine trl_not rfl g37 ?_
    refine trl_not rfl g37 ?_
    refine trl_not rfl g37 ?_
    refine trl_pv (pv_pick_t rfl g37 rfl) (tmv rfl (trl_not rfl rfl ?_))
    refine trl_not rfl rfl ?_
    refine trl_not rfl rfl ?_
    refine trl_not rfl rfl ?_
    refine trl_not rfl rfl ?_
    refine trl_not rfl rfl ?_
    refine trl_not rfl rfl ?_
    refine trl_pv (pv_pick_t rfl rfl rfl) (trl_nil (tr_keep (ks := [0,1,2,7,54]) (.cons rfl (.cons rfl (.cons rfl (.cons rfl (.cons rfl .nil))))) fun base => ?_))
    refine tr_then rfl rfl ?_
    refine tr_seq (tr_region (tas rfl (trl_nil (tr_ret func134 rfl .nil (by kernel_rfl) (.tmp rfl .nil) () (by rw [hbad (by unfold blankAt; rw [hf.w, g37]; rfl)]; rfl) trivial (holds_of_picks (by with_reducible repeat constructor))))))
   ·refine trl_pvg rfl g37 (pv_move rfl) ?_
    refine trl_pvg rfl g37 (pv_nilCheck rfl) ?_
    refine trl_pvg rfl g37 (pv_fieldAddr runUnderlying133 rfl sizeOf123 rfl rfl) ?_
    refine trl_valg rfl g37 (rv_cd isAgg123 rfl (by with_reducible repeat constructor) rfl) ?_
    refine trl_pvg rfl g37 (pv_move rfl) ?_
    refine trl_pvg rfl g37 (pv_indexAddr_v runUnderlying123 sizeOf4 rfl rfl hg.e (Int.natCast_nonneg _) (Int.ofNat_lt.2 hc2)) ?_
    refine trl_valg rfl g37 (rv_cde isAgg4 rfl (by with_reducible repeat constructor) (cde_at hf hc2)) ?_
    refine trl_pv (pv_pick_f rfl g37 rfl) (tmv rfl (trl_splitb 16 rfl (fun g46 => ?_) (fun g46 => ?_)))
    ·refine trl_not rfl g46 ?_
     refine trl_not rfl g46 ?_
     refine trl_not rfl g46 ?_
     refine trl_not rfl g46 ?_
     refine trl_not rfl g46 ?_
     refine trl_not rfl g46 ?_
     refine trl_not rfl g46 ?_
     refine trl_pv (pv_pick_t rfl g46 rfl) (trl_nil (tr_keep (ks := [0,1,2,7,54]) (.cons rfl (.cons rfl (.cons rfl (.cons rfl (.cons rfl .nil))))) fun base => ?_))
     refine tr_then rfl rfl ?_
     refine tr_seq (tr_region (tas rfl (trl_nil (tr_ret func134 rfl .nil (by kernel_rfl) (.tmp rfl .nil) () (by rw [hbad (by unfold blankAt; rw [hf.w, g46]; simp)]; rfl) trivial (holds_of_picks (by with_reducible repeat constructor))))))
    ·refine trl_pvg rfl g46 (pv_move rfl) ?_
     refine trl_pvg rfl g46 (pv_move rfl) ?_
     refine trl_pvg rfl g46 (pv_move rfl) ?_
     refine trl_pvg rfl g46 (pv_move rfl) ?_
     refine trl_pvg rfl g46 (pv_conv (pv_addI rfl rfl (by omega) (by omega)) (congrArg (Value.int .i64) (show (y : Int) + (j : Int) = ((y + j : Nat) : Int) from by omega))) ?_
     refine trl_effg rfl g46 (ef_call rfl rfl call121 (k_zero hg hf hx (y := y + j) (by omega)) (by with_reducible repeat constructor) fun x52 hx52 => ?_)
     dsimp only [List.cons_append, List.nil_append]
     refine trl_pvg rfl g46 (pv_neq rfl rfl) ?_
     refine trl_pv (pv_pick_f rfl g46 rfl) (trl_nil (tr_keep (ks := [0,1,2,7,54]) (.cons rfl (.cons rfl (.cons rfl (.cons rfl (.cons rfl .nil))))) fun base => ?_))
     refine tr_if rfl (fun h2 => ?_) (fun h2 => ?_)
     ·refine tr_seq (tr_region (tas rfl (trl_nil (tr_ret func134 rfl .nil (by kernel_rfl) (.tmp rfl .nil) () (by rw [hbad (by unfold blankAt; rw [decide_eq_false h2]; simp)]; rfl) trivial (holds_of_picks (by with_reducible repeat constructor))))))
     ·refine tr_skip (tr_inBlock (tr_region (tmv rfl (trl_pv (pv_addI rfl rfl (by omega) (by omega)) ?_))))
      refine tas rfl (trl_nil (tr_again ih0 (j + 1) (by first | omega | (dsimp only; omega)) (.cons rfl (.cons rfl (.cons rfl (.cons rfl .nil)))) (holds_pure ⟨by omega, hgood (by unfold blankAt; rw [hf.w, g37, g46, decide_eq_true (by omega)]; rfl)⟩ (holds_of_picks (by with_reducible repeat constructor)))))
  ·refine tr_exit rfl (tr_seq (tr_region (tas rfl (trl_nil ?_))))
   obtain rfl : j = 4 := by omega
   refine tr_ret func134 rfl .nil (by kernel_rfl) (.tmp rfl .nil) () (by rw [hbl, hal]; rfl) trivial (holds_of_picks (by with_reducible repeat constructor))
end Go.Proofs
