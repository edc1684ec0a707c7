/- Contracts of functions that the law reaches, in every memory (part Rtree). -/
import Derived.Test.YtbmfgngjcpmjeaaGreatRbits
import Derived.Test.YtbmfgngjcpmjeaaGreatEngD
import Derived.Test.YtbmfgngjcpmjeaaGreatPlainB
set_option linter.unusedVariables false
set_option linter.unusedSimpArgs false
set_option maxRecDepth 10000
namespace Go.Proofs
open Go.Eng Tryz
def RT (r : Nat) (sh : List (Nat × Nat)) (T : List Nd) (fresh : Bool) : SL := ex fun v => star (pure' (one? v = true ∧ T.length = total sh))
  (star (pt r 159 [v, .int .i64 (leavesOf sh : Nat), .bool fresh]) (Sl 162 4 (total sh) v (rcells T (ups sh 0))))
theorem rt_open {r : Nat} {sh : List (Nat × Nat)} {T : List Nd} {fresh : Bool} : Unfold (RT r sh T fresh) (fun v => one? v = true ∧ T.length = total sh)
    (fun v => [pt r 159 [v, .int .i64 (leavesOf sh : Nat), .bool fresh], Sl 162 4 (total sh) v (rcells T (ups sh 0))]) := by
  intro F w N h
  obtain ⟨v, h⟩ := Holds.ex.1 h
  obtain ⟨hp, h⟩ := Holds.pure.1 (Holds.star.1 h)
  exact ⟨v, hp, Holds.star.1 h⟩
theorem rt_fold {r n : Nat} {sh : List (Nat × Nat)} {T : List Nd} {fresh : Bool} {v : Value} {cells : List Value} {lv : Int} (ho : one? v = true) (h2 : T.length = total sh) (hn : total sh = n) (hc : rcells T (ups sh 0) = cells) (hlv : ((leavesOf sh : Nat) : Int) = lv) :
    Fold [pt r 159 [v, .int .i64 lv, .bool fresh], Sl 162 4 n v cells] (RT r sh T fresh) := by
  intro F w N h
  subst hn; subst hc; subst hlv
  exact Holds.ex.2 ⟨v, Holds.star.2 (Holds.pure.2 ⟨⟨ho, h2⟩, Holds.star.2 h⟩)⟩
theorem rtree_new {w h : Nat} (hw : w ≤ 64) (hh : h ≤ 64) : Spec Tryz.prog 51 [.int .i64 (w : Nat), .int .i64 (h : Nat)] []
    (fun r : Nat => ⟨.pointer (some ⟨r, 0, none⟩), True, [RT r (tshape w h) (List.replicate (total (tshape w h)) ⟨0, 0, false⟩) false]⟩) := by
 refine spec_of_tr func51 rfl ntmps51 (by kernel_rfl) ?_
 have hm0 := Nat.mul_le_mul hw hh
 refine tr_seq (tr_region (tas rfl (trl_nil (tr_seq (tr_region (tmv rfl (trl_pv (pv_conv (pv_maxI rfl rfl) (congrArg (Value.int .i64) (show max (w : Int) 0 = ((w : Nat) : Int) from by omega))) (tmv rfl (trl_pv (pv_conv (pv_maxI rfl rfl) (congrArg (Value.int .i64) (show max (h : Int) 0 = ((h : Nat) : Int) from by omega))) (trl_pv (pv_conv (pv_mulI rfl rfl (by omega) (by omega)) (congrArg (Value.int .i64) (show (w : Int) * (h : Int) = ((w * h : Nat) : Int) from by simp))) ?_))))))))))
 refine trl_pv (pv_build (pl := [(0, 1), (1, 1), (2, 1)]) runUnderlying159 zeroValue159 (fun w => by simp [sizeOf157, sizeOf3, sizeOf4]) (by dsimp only [cellsL, List.toList_toArray]) rfl rfl) ?_
 refine trl_eff (ef_box rfl (by dsimp only [cellsL, List.toList_toArray]) fun r18 => ?_)
 refine tas rfl (trl_nil (tr_keep (ks := [0,1,5]) (.cons rfl (.cons rfl (.cons rfl .nil))) fun base => ?_))
 refine tr_seq (tr_seq (tr_region (tmv rfl (tnc rfl (trl_pv (pv_fieldAddr runUnderlying159 rfl sizeOf3 rfl rfl) (trl_val (rv_load isAgg3 rfl (by with_reducible repeat constructor) rfl) ?_))))))
 refine trl_pv (pv_eql rfl rfl) (trl_nil (tr_if rfl (fun h0 => ?_) (fun h0 => ?_)))
 ·refine tr_seq (tr_region (tmv rfl (tas rfl (trl_nil (tr_keep (ks := [4]) (.cons rfl .nil) fun base => ?_)))))
  have hz := tshape_nil hm0 h0
  rw [hz]
  refine tr_empty 162 4 none ?_
  refine Tr.fold (rt_fold (r := r18) (sh := []) (T := []) (fresh := false) (v := .slice none 0 0) (n := 0) (cells := []) (lv := ((w * h : Nat) : Int)) rfl rfl rfl rfl (by rw [show leavesOf [] = 0 from rfl]; omega)) (by with_reducible repeat constructor) ?_
  refine tr_ret func51 rfl .nil (by kernel_rfl) (.tmp rfl .nil) r18 rfl trivial (holds_eq (As' := [RT r18 [] [] false]) (holds_of_picks (by with_reducible repeat constructor)) rfl)
 ·refine tr_skip (tr_seq (tr_region (tmv rfl (tmv rfl (tas rfl (tas rfl (tas rfl (trl_nil ?_))))))))
  refine tr_empty 162 4 none ?_
  refine tr_keep (ks := [5,6,7,8]) (.cons rfl (.cons rfl (.cons rfl (.cons rfl .nil)))) fun base => ?_
  refine tr_block (tr_while (α := Value × List (Nat × Nat) × Nat × Nat) ((.slice none 0 0, [], w, h)) (fun x => x.2.2.1 + x.2.2.2) (fun x => [(5, .pointer (some ⟨r18, 0, none⟩)), (6, .int .i64 (x.2.2.1 : Nat)), (7, .int .i64 (x.2.2.2 : Nat)), (8, .int .i64 (total x.2.1 : Nat))]) (fun x => [pure' (one? x.1 = true ∧ 0 < x.2.2.1 ∧ x.2.2.1 ≤ 64 ∧ 0 < x.2.2.2 ∧ x.2.2.2 ≤ 64 ∧ total x.2.1 + 5000 * (x.2.2.1 + x.2.2.2) ≤ 640000 ∧ ∃ f, x.2.2.1 + x.2.2.2 ≤ f ∧ tshape w h = x.2.1 ++ shp f x.2.2.1 x.2.2.2), pt r18 159 [x.1, .int .i64 ((w * h : Nat) : Int), .bool false], Sl 162 4 (total x.2.1) x.1 (((ups (tshape w h) 0).take (total x.2.1)).flatMap encZ)]) (ks := [5,6,7,8]) (.cons rfl (.cons rfl (.cons rfl (.cons rfl .nil)))) (holds_eq (As' := [pure' _, pt r18 159 [.slice none 0 0, .int .i64 ((w * h : Nat) : Int), .bool false], Sl 162 4 0 (.slice none 0 0) []]) (holds_pure ⟨rfl, pos_left hm0 h0, hw, pos_right hm0 h0, hh, by simp [total]; omega, w + h, Nat.le_refl _, tshape_pos hm0 h0⟩ (holds_of_picks (by with_reducible repeat constructor))) rfl) ?_)
  intro ⟨v, dn, wa, ha⟩ base ih0
  refine Tr.pure fun ⟨hov, g1, g2, g3, g4, g5, f, g6, g7⟩ => ?_
  dsimp only at hov g1 g2 g3 g4 g5 g6 g7 ⊢
  have hm := Nat.mul_le_mul g2 g4
  obtain ⟨f, rfl⟩ : ∃ f0, f = f0 + 1 := ⟨f - 1, by omega⟩
  simp only [shp] at g7
  refine tr_block (tr_seq (tr_region (tmv rfl (tmv rfl (tmv rfl (trl_pv (pv_conv (pv_mulI rfl rfl (by omega) (by omega)) (congrArg (Value.int .i64) (show (wa : Int) * (ha : Int) = ((wa * ha : Nat) : Int) from by simp))) ?_))))))
  refine trl_pv (pv_conv (pv_addI rfl rfl (by omega) (by omega)) (congrArg (Value.int .i64) (show ((total dn : Nat) : Int) + ((wa * ha : Nat) : Int) = ((total dn + wa * ha : Nat) : Int) from by omega))) ?_
  refine tas rfl (trl_nil (tr_seq (tr_seq (tr_region (tas rfl (trl_nil (tr_block (tr_while (α := Value × Nat) ((v, 0)) (fun x => wa * ha - x.2) (fun x => [(5, .pointer (some ⟨r18, 0, none⟩)), (6, .int .i64 (wa : Nat)), (7, .int .i64 (ha : Nat)), (9, .int .i64 ((total dn + wa * ha : Nat) : Int)), (10, .int .i64 (x.2 : Nat))]) (fun x => [pure' (one? x.1 = true ∧ x.2 ≤ wa * ha), pt r18 159 [x.1, .int .i64 ((w * h : Nat) : Int), .bool false], Sl 162 4 (total dn + x.2) x.1 (((ups (tshape w h) 0).take (total dn + x.2)).flatMap encZ)]) (ks := [5,6,7,9,10]) (.cons rfl (.cons rfl (.cons rfl (.cons rfl (.cons rfl .nil))))) (by simp only [Nat.add_zero]; exact holds_pure ⟨hov, Nat.zero_le _⟩ (holds_of_picks (by with_reducible repeat constructor))) ?_))))))))
  intro ⟨v2, k⟩ base ih1
  refine Tr.pure fun ⟨hov2, hk0⟩ => ?_
  dsimp only at hov2 hk0 ⊢
  refine tr_seq (tr_seq (tr_region (tmv rfl (tmv rfl (tmv rfl (trl_pv (pv_conv (pv_mulI rfl rfl (by omega) (by omega)) (congrArg (Value.int .i64) (show (wa : Int) * (ha : Int) = ((wa * ha : Nat) : Int) from by simp))) ?_))))))
  refine trl_pv (pv_lss rfl rfl) (trl_nil (tr_if rfl (fun h1 => ?_) (fun h1 => ?_)))
  ·refine tr_skip (tr_seq (tr_block (tr_seq ?_)))
   have hup := ups_at (dn := dn) (rest := if wa = 1 ∧ ha = 1 then [] else shp f ((wa + 1) / 2) ((ha + 1) / 2)) (w := wa) (h := ha) (k := k) (by omega)
   rw [← g7] at hup
   have hpl := parent_lt (h := ha) g1 (show k < wa * ha by omega)
   have hpm := Nat.mul_le_mul (show (wa + 1) / 2 ≤ 64 by omega) (show (ha + 1) / 2 ≤ 64 by omega)
   unfold parent at hpl hup
   have hd1 : k / wa ≤ k := Nat.div_le_self _ _
   have hd2 : k % wa ≤ k := Nat.mod_le _ _
   have hd0 : 0 ≤ k / wa / 2 * ((wa + 1) / 2) := Nat.zero_le _
   refine tr_region (tas rfl (trl_nil (tr_seq (tr_seq (tr_region (tmv rfl (tmv rfl (trl_pv (pv_conv (pv_mulI rfl rfl (by omega) (by omega)) (congrArg (Value.int .i64) (show (wa : Int) * (ha : Int) = ((wa * ha : Nat) : Int) from by simp))) ?_))))))))
   refine trl_pv (pv_gtr rfl rfl) (trl_nil (tr_keep (ks := [5,6,7,9,10,11,42]) (.cons rfl (.cons rfl (.cons rfl (.cons rfl (.cons rfl (.cons rfl (.cons rfl .nil))))))) fun base => ?_))
   refine tr_if rfl (fun h2 => ?_) (fun h2 => ?_)
   ·refine tr_draww (rem := [0,1,2,3,4,5,6,7,8,9,10,11,12,13,14,15]) (by kernel_rfl) (by kernel_rfl) rfl ?_
    refine twm 0 [9,14,15] rfl (by kernel_rfl) rfl rfl (twm 1 [3,4,8,9,14,15] rfl (by kernel_rfl) rfl rfl (twm 2 [3,4,8,9,14,15] rfl (by kernel_rfl) rfl rfl (trw_pure 3 [4,8,9,14,15] rfl (by kernel_rfl) rfl (pv_conv (pv_quoI rfl rfl (by omega) (by omega) (by omega)) (congrArg (Value.int .i64) (show (k : Int) / (wa : Int) = ((k / wa : Nat) : Int) from by simp))) ?_)))
    refine trw_pure 4 [8,9,14,15] rfl (by kernel_rfl) rfl (pv_conv (pv_quoI rfl rfl (Int.natCast_nonneg _) (by decide) (nat_le63 (by omega))) (congrArg (Value.int .i64) (show ((k / wa : Nat) : Int) / 2 = ((k / wa / 2 : Nat) : Int) from by simp))) ?_
    refine twm 5 [6,7,8,9,14,15] rfl (by kernel_rfl) rfl rfl (trw_pure 6 [7,8,9,14,15] rfl (by kernel_rfl) rfl (pv_addI rfl rfl (by omega) (by omega)) ?_)
    refine trw_pure 7 [8,9,14,15] rfl (by kernel_rfl) rfl (pv_conv (pv_quoI rfl rfl (by omega) (by omega) (by omega)) (congrArg (Value.int .i64) (show ((wa : Int) + 1) / 2 = (((wa + 1) / 2 : Nat) : Int) from by simp))) ?_
    have hqe : ((k / wa / 2 : Nat) : Int) * (((wa + 1) / 2 : Nat) : Int) = ((k / wa / 2 * ((wa + 1) / 2) : Nat) : Int) := by simp
    have hq1 : -9223372036854775808 ≤ ((k / wa / 2 : Nat) : Int) * (((wa + 1) / 2 : Nat) : Int) := by rw [hqe]; exact Int.le_trans (by omega) (Int.natCast_nonneg _)
    have hq2 : ((k / wa / 2 : Nat) : Int) * (((wa + 1) / 2 : Nat) : Int) ≤ 9223372036854775807 := by rw [hqe]; exact Int.ofNat_le.2 (show k / wa / 2 * ((wa + 1) / 2) ≤ 9223372036854775807 by omega)
    have hq3 : k / wa / 2 * ((wa + 1) / 2) ≤ 100000 := by omega
    have hq4 : k % wa / 2 ≤ 100000 := by omega
    refine trw_pure 8 [9,14,15] rfl (by kernel_rfl) rfl (pv_conv (pv_mulI rfl rfl hq1 hq2) (congrArg (Value.int .i64) (show ((k / wa / 2 : Nat) : Int) * (((wa + 1) / 2 : Nat) : Int) = ((k / wa / 2 * ((wa + 1) / 2) : Nat) : Int) from by simp))) (trw_pure 9 [14,15] rfl (by kernel_rfl) rfl (pv_conv (pv_addI rfl rfl (by exact Int.le_trans (by decide) (Int.add_nonneg (Int.natCast_nonneg _) (Int.natCast_nonneg _))) (by exact nat_sum (by omega))) (congrArg (Value.int .i64) (show ((total dn + wa * ha : Nat) : Int) + ((k / wa / 2 * ((wa + 1) / 2) : Nat) : Int) = ((total dn + wa * ha + k / wa / 2 * ((wa + 1) / 2) : Nat) : Int) from (Int.natCast_add _ _).symm))) ?_)
    refine twm 10 [12,13,14,15] rfl (by kernel_rfl) rfl rfl (twm 11 [12,13,14,15] rfl (by kernel_rfl) rfl rfl (trw_pure 12 [13,14,15] rfl (by kernel_rfl) rfl (pv_conv (pv_remI rfl rfl (by omega) (by omega)) (congrArg (Value.int .i64) (show (k : Int) % (wa : Int) = ((k % wa : Nat) : Int) from by simp))) ?_))
    refine trw_pure 13 [14,15] rfl (by kernel_rfl) rfl (pv_conv (pv_quoI rfl rfl (Int.natCast_nonneg _) (by decide) (nat_le63 (by omega))) (congrArg (Value.int .i64) (show ((k % wa : Nat) : Int) / 2 = ((k % wa / 2 : Nat) : Int) from by simp))) ?_
    refine trw_pure 14 [15] rfl (by kernel_rfl) rfl (pv_conv (pv_addI rfl rfl (by exact Int.le_trans (by decide) (Int.add_nonneg (Int.natCast_nonneg _) (Int.natCast_nonneg _))) (by exact nat_sum (by omega))) (congrArg (Value.int .i64) (show ((total dn + wa * ha + k / wa / 2 * ((wa + 1) / 2) : Nat) : Int) + ((k % wa / 2 : Nat) : Int) = ((total dn + wa * ha + k / wa / 2 * ((wa + 1) / 2) + k % wa / 2 : Nat) : Int) from (Int.natCast_add _ _).symm))) ?_
    refine trw_pure 15 [] rfl (by kernel_rfl) rfl (pv_assign rfl) (trw_nil (tr_keep (ks := [5,6,7,9,10,11]) (.cons rfl (.cons rfl (.cons rfl (.cons rfl (.cons rfl (.cons rfl .nil)))))) fun base => ?_))
    refine tr_region (tmv rfl (tmv rfl (tnc rfl (trl_pv (pv_fieldAddr runUnderlying159 rfl sizeOf157 rfl rfl) (trl_val (rv_load isAgg157 rfl (by with_reducible repeat constructor) rfl) ?_)))))
    refine tmv rfl (trl_pv (pv_build (pl := [(0, 1), (1, 1), (2, 1), (3, 1)]) runUnderlying162 zeroValue162 (fun w => by simp [sizeOf3, sizeOf4]) (by dsimp only [cellsL, List.toList_toArray]) rfl rfl) ?_)
    refine trl_eff (ef_buildSlice runUnderlying157 sizeOf162 zeroValue162 rfl rfl rfl rfl rfl (by dsimp only [flatC, cellsL, List.toList_toArray, List.cons_append, List.nil_append, List.append_nil]) fun r65 => ?_)
    refine trl_eff (ef_append runUnderlying157 runUnderlying157 typeInfo162 sizeOf162 zeroValue162 rfl rfl rfl (by with_reducible repeat constructor) (reads_pt (by with_reducible repeat constructor) rfl) rfl (by simp [one?]) (by rw [show Tryz.t162.bytes = 32 from rfl]; omega) fun v66 ho66 => ?_)
    refine tnc rfl (trl_pv (pv_fieldAddr runUnderlying159 rfl sizeOf157 rfl rfl) (trl_eff0 (ef_store sizeOf157 rfl rfl (by first | rfl | assumption) (by with_reducible repeat constructor) rfl ?_)))
    refine trl_nil (tr_keep (ks := [5,6,7,9,10]) (.cons rfl (.cons rfl (.cons rfl (.cons rfl (.cons rfl .nil))))) fun base => ?_)
    refine tr_inBlock (tr_region (tmv rfl (trl_pv (pv_addI rfl rfl (by omega) (by omega)) ?_)))
    refine tas rfl (trl_nil ?_)
    rw [if_pos (by omega), ← Nat.add_assoc] at hup
    refine tr_again ih1 (v66, k + 1) (by first | omega | (dsimp only; omega)) (.cons rfl (.cons rfl (.cons rfl (.cons rfl (.cons (keep_int rfl (by dsimp only; omega)) .nil))))) (by dsimp only; rw [← Nat.add_assoc, encZ_snoc hup]; exact holds_pure ⟨ho66, by omega⟩ (holds_of_picks (by with_reducible repeat constructor)))
   ·refine tr_skip (tr_region (tmv rfl (tmv rfl (tnc rfl (trl_pv (pv_fieldAddr runUnderlying159 rfl sizeOf157 rfl rfl) (trl_val (rv_load isAgg157 rfl (by with_reducible repeat constructor) rfl) ?_))))))
    refine tmv rfl (trl_pv (pv_build (pl := [(0, 1), (1, 1), (2, 1), (3, 1)]) runUnderlying162 zeroValue162 (fun w => by simp [sizeOf3, sizeOf4]) (by dsimp only [cellsL, List.toList_toArray]) rfl rfl) ?_)
    refine trl_eff (ef_buildSlice runUnderlying157 sizeOf162 zeroValue162 rfl rfl rfl rfl rfl (by dsimp only [flatC, cellsL, List.toList_toArray, List.cons_append, List.nil_append, List.append_nil]) fun r65 => ?_)
    refine trl_eff (ef_append runUnderlying157 runUnderlying157 typeInfo162 sizeOf162 zeroValue162 rfl rfl rfl (by with_reducible repeat constructor) (reads_pt (by with_reducible repeat constructor) rfl) rfl (by simp [one?]) (by rw [show Tryz.t162.bytes = 32 from rfl]; omega) fun v66 ho66 => ?_)
    refine tnc rfl (trl_pv (pv_fieldAddr runUnderlying159 rfl sizeOf157 rfl rfl) (trl_eff0 (ef_store sizeOf157 rfl rfl (by first | rfl | assumption) (by with_reducible repeat constructor) rfl ?_)))
    refine trl_nil (tr_keep (ks := [5,6,7,9,10]) (.cons rfl (.cons rfl (.cons rfl (.cons rfl (.cons rfl .nil))))) fun base => ?_)
    refine tr_inBlock (tr_region (tmv rfl (trl_pv (pv_addI rfl rfl (by omega) (by omega)) ?_)))
    refine tas rfl (trl_nil ?_)
    rw [if_neg (by omega)] at hup
    refine tr_again ih1 (v66, k + 1) (by first | omega | (dsimp only; omega)) (.cons rfl (.cons rfl (.cons rfl (.cons rfl (.cons (keep_int rfl (by dsimp only; omega)) .nil))))) (by dsimp only; rw [← Nat.add_assoc, encZ_snoc hup]; exact holds_pure ⟨ho66, by omega⟩ (holds_of_picks (by with_reducible repeat constructor)))
  ·refine tr_exit rfl (tr_seq (tr_seq (tr_region (tmv rfl (tmv rfl (trl_pv (pv_conv (pv_mulI rfl rfl (by omega) (by omega)) (congrArg (Value.int .i64) (show (wa : Int) * (ha : Int) = ((wa * ha : Nat) : Int) from by simp))) ?_))))))
   refine trl_pv (pv_eql rfl rfl) (trl_nil (tr_keep (ks := [5,6,7,9,72]) (.cons rfl (.cons rfl (.cons rfl (.cons rfl (.cons rfl .nil))))) fun base => ?_))
   refine tr_if rfl (fun h3 => ?_) (fun h3 => ?_)
   ·refine tr_seq (tr_region (tmv rfl (tas rfl (trl_nil ?_))))
    have hk : k = wa * ha := by omega
    have hp1 : wa ≤ wa * ha := Nat.le_mul_of_pos_right _ g3
    have hp2 : ha ≤ wa * ha := Nat.le_mul_of_pos_left _ g1
    have e1 : wa = 1 ∧ ha = 1 := by omega
    rw [if_pos e1] at g7
    have ht : total (tshape w h) = total dn + k := by rw [g7, total_snoc, hk]
    refine Tr.fold (rt_fold (r := r18) (sh := tshape w h) (T := List.replicate (total (tshape w h)) ⟨0, 0, false⟩) (fresh := false) (v := v2) (n := total dn + k) (cells := ((ups (tshape w h) 0).take (total dn + k)).flatMap encZ) (lv := ((w * h : Nat) : Int)) hov2 (by simp) ht (by unfold rcells; rw [zip_rep _ _ (ups_length _ _), List.take_of_length_le (by rw [ups_length]; omega)]) (by rw [leaves_tshape hm0 h0])) (by with_reducible repeat constructor) ?_
    refine tr_ret func51 rfl .nil (by kernel_rfl) (.tmp rfl .nil) r18 rfl trivial (holds_of_picks (by with_reducible repeat constructor))
   ·refine tr_skip (tr_region (tmv rfl (tmv rfl (trl_pv (pv_addI rfl rfl (by omega) (by omega)) ?_))))
    refine trl_pv (pv_quoI rfl rfl (by omega) (by omega) (by omega)) ?_
    refine tmv rfl (trl_pv (pv_addI rfl rfl (by omega) (by omega)) ?_)
    refine trl_pv (pv_quoI rfl rfl (by omega) (by omega) (by omega)) ?_
    refine tas rfl (tas rfl (tas rfl (trl_nil (tr_keep (ks := [5,6,7,8]) (.cons rfl (.cons rfl (.cons rfl (.cons rfl .nil)))) fun base => ?_))))
    refine tr_inBlock ?_
    have hk : k = wa * ha := by omega
    have e1 : ¬ (wa = 1 ∧ ha = 1) := fun e => h3 (by rw [e.1, e.2]; rfl)
    rw [if_neg e1] at g7
    have ht : total dn + k = total (dn ++ [(wa, ha)]) := by rw [total_snoc, hk]
    have hp1 : wa ≤ wa * ha := Nat.le_mul_of_pos_right _ g3
    have hp2 : ha ≤ wa * ha := Nat.le_mul_of_pos_left _ g1
    refine tr_again ih0 (v2, dn ++ [(wa, ha)], (wa + 1) / 2, (ha + 1) / 2) (by first | omega | (dsimp only; omega)) (.cons rfl (.cons (keep_int rfl (by dsimp only; omega)) (.cons (keep_int rfl (by dsimp only; omega)) (.cons (keep_int rfl (by dsimp only; omega)) .nil)))) (by dsimp only; rw [ht]; exact holds_pure ⟨hov2, by omega, by omega, by omega, by omega, by omega, f, by omega, by rw [g7]; simp⟩ (holds_of_picks (by with_reducible repeat constructor)))
end Go.Proofs
