/- Contracts of functions that the law reaches, in every memory (part Q4). -/
import Derived.Test.YtbmfgngjcpmjeaaGreatQ3
set_option linter.unusedVariables false
set_option linter.unusedSimpArgs false
set_option maxRecDepth 10000
namespace Go.Proofs
open Go.Eng Tryz
theorem x_zero {band h v d : Int} (h00 : 0 ≤ h) (h01 : h ≤ 2) (v00 : 0 ≤ v) (v01 : v ≤ 2) (d00 : 0 ≤ d) (d01 : d ≤ 4) : Spec Tryz.prog 130 [.int .i64 band, .int .i64 h, .int .i64 v, .int .i64 d] [] (fun _ : Unit => ⟨.int .i64 (zeroF band h v d), True, []⟩) := by
 refine spec_of_tr func130 rfl ntmps130 (by kernel_rfl) ?_
 refine tr_seq (tr_region (tas rfl (trl_nil (tr_seq (tr_seq (tr_region (tmv rfl (trl_pv (pv_eql rfl rfl) (trl_nil (tr_if rfl (fun h0 => ?_) (fun h0 => ?_)))))))))))
 ·refine tr_seq (tr_region (tmv rfl (tmv rfl (trl_pv (pv_addI rfl rfl (by omega) (by omega)) ?_))))
  refine tas rfl (trl_nil (tr_keep (ks := [3,9]) (.cons rfl (.cons rfl .nil)) fun base => ?_))
  refine tr_seq (tr_block (tr_seq (tr_region (tmv rfl (trl_pv (pv_geq rfl rfl) (tas rfl (trl_nil (tr_if rfl (fun h1 => ?_) (fun h1 => ?_)))))))))
  ·refine tr_seq (tr_region (tas rfl (trl_nil (tr_ret func130 rfl .nil (by kernel_rfl) (.tmp rfl .nil) () (by show Value.int .i64 _ = Value.int .i64 (zeroF band h v d); congr 1; unfold zeroF; dsimp only; (repeat (first | omega | split))) trivial (holds_of_picks (by with_reducible repeat constructor))))))
  ·refine tr_seq (tr_region (tmv rfl (trl_pv (pv_eql rfl rfl) (tas rfl (trl_nil (tr_if rfl (fun h2 => ?_) (fun h2 => ?_)))))))
   ·refine tr_seq (tr_region (tmv rfl (trl_pv (pv_minI rfl rfl) (trl_pv (pv_addI rfl rfl (by omega) (by omega)) ?_))))
    refine tas rfl (trl_nil (tr_keep (ks := [8]) (.cons rfl .nil) fun base => ?_))
    refine tr_ret func130 rfl .nil (by kernel_rfl) (.tmp rfl .nil) () (by show Value.int .i64 _ = Value.int .i64 (zeroF band h v d); congr 1; unfold zeroF; dsimp only; (repeat (first | omega | split))) trivial (holds_of_picks (by with_reducible repeat constructor))
   ·refine tr_seq (tr_region (tmv rfl (trl_pv (pv_eql rfl rfl) (tas rfl (trl_nil (tr_keep (ks := [9,24]) (.cons rfl (.cons rfl .nil)) fun base => ?_))))))
    refine tr_if rfl (fun h3 => ?_) (fun h3 => ?_)
    ·refine tr_seq (tr_region (tmv rfl (trl_pv (pv_minI rfl rfl) (trl_pv (pv_addI rfl rfl (by omega) (by omega)) ?_))))
     refine tas rfl (trl_nil (tr_ret func130 rfl .nil (by kernel_rfl) (.tmp rfl .nil) () (by show Value.int .i64 _ = Value.int .i64 (zeroF band h v d); congr 1; unfold zeroF; dsimp only; (repeat (first | omega | split))) trivial (holds_of_picks (by with_reducible repeat constructor))))
    ·refine tr_skip (tr_inBlock (tr_seq (tr_region (tmv rfl (trl_pv (pv_minI rfl rfl) (tas rfl (trl_nil (tr_ret func130 rfl .nil (by kernel_rfl) (.tmp rfl .nil) () (by show Value.int .i64 _ = Value.int .i64 (zeroF band h v d); congr 1; unfold zeroF; dsimp only; (repeat (first | omega | split))) trivial (holds_of_picks (by with_reducible repeat constructor))))))))))
 ·refine tr_skip (tr_seq (tr_seq (tr_region (tmv rfl (trl_pv (pv_eql rfl rfl) (trl_nil ?_))))))
  refine tr_join (α := Int × Int) (fun z => [(1, .int .i64 z.1), (2, .int .i64 z.2), (3, .int .i64 d)]) (fun z => [pure' (z.1 = (if band = 1 then v else h) ∧ z.2 = (if band = 1 then h else v))]) (fun K4 hK4 => ?_) ?_
  ·refine tr_if rfl (fun h4 => ?_) (fun h4 => ?_)
   ·refine tr_region (tmv rfl (tmv rfl (tas rfl (tas rfl (trl_nil (tr_keep (ks := [1,2,3]) (.cons rfl (.cons rfl (.cons rfl .nil))) fun base => ?_))))))
    refine tr_meet hK4 (v, h) (.cons rfl (.cons rfl (.cons rfl .nil))) (holds_pure ⟨(if_pos h4).symm, (if_pos h4).symm⟩ (holds_of_picks (by with_reducible repeat constructor)))
   ·refine tr_skip (tr_meet hK4 (h, v) (.cons rfl (.cons rfl (.cons rfl .nil))) (holds_pure ⟨(if_neg h4).symm, (if_neg h4).symm⟩ (holds_of_picks (by with_reducible repeat constructor))))
  ·intro ⟨x, y⟩ base
   refine Tr.pure fun ⟨hx, hy⟩ => ?_
   dsimp only at hx hy
   have hx2 : 0 ≤ x ∧ x ≤ 2 := by rw [hx]; split <;> omega
   have hy2 : 0 ≤ y ∧ y ≤ 2 := by rw [hy]; split <;> omega
   refine tr_seq (tr_block (tr_seq (tr_region (tmv rfl (trl_pv (pv_eql rfl rfl) (tas rfl (trl_nil (tr_if rfl (fun h5 => ?_) (fun h5 => ?_)))))))))
   ·refine tr_seq (tr_region (tas rfl (trl_nil (tr_ret func130 rfl .nil (by kernel_rfl) (.tmp rfl .nil) () (by show Value.int .i64 _ = Value.int .i64 (zeroF band h v d); congr 1; unfold zeroF; dsimp only; (repeat (first | omega | split))) trivial (holds_of_picks (by with_reducible repeat constructor))))))
   ·refine tr_seq (tr_region (tmv rfl (trl_pv (pv_eql rfl rfl) (tmv rfl (trl_split 2 rfl (fun g42 => ?_) (fun g42 => ?_))))))
    ·refine trl_pvg rfl (decide_eq_true g42) (pv_move rfl) (trl_pvg rfl (decide_eq_true g42) (pv_geq rfl rfl) (trl_pv (pv_pick_t rfl (decide_eq_true g42) rfl) (tas rfl (trl_nil (tr_keep (ks := [1,2,3,39]) (.cons rfl (.cons rfl (.cons rfl (.cons rfl .nil)))) fun base => ?_)))))
     refine tr_if rfl (fun h6 => ?_) (fun h6 => ?_)
     ·refine tr_seq (tr_region (tas rfl (trl_nil (tr_ret func130 rfl .nil (by kernel_rfl) (.tmp rfl .nil) () (by show Value.int .i64 _ = Value.int .i64 (zeroF band h v d); congr 1; unfold zeroF; dsimp only; (repeat (first | omega | split))) trivial (holds_of_picks (by with_reducible repeat constructor))))))
     ·refine tr_seq (tr_region (tmv rfl (trl_pv (pv_eql rfl rfl) (tas rfl (trl_nil (tr_if rfl (fun h7 => ?_) (fun h7 => ?_)))))))
      ·refine tr_seq (tr_region (tmv rfl (trl_pv (pv_minI rfl rfl) (trl_pv (pv_addI rfl rfl (by omega) (by omega)) ?_))))
       refine tas rfl (trl_nil (tr_keep (ks := [8]) (.cons rfl .nil) fun base => ?_))
       refine tr_ret func130 rfl .nil (by kernel_rfl) (.tmp rfl .nil) () (by show Value.int .i64 _ = Value.int .i64 (zeroF band h v d); congr 1; unfold zeroF; dsimp only; (repeat (first | omega | split))) trivial (holds_of_picks (by with_reducible repeat constructor))
      ·refine tr_seq (tr_region (tmv rfl (trl_pv (pv_gtr rfl rfl) (tas rfl (trl_nil (tr_keep (ks := [2,3,52]) (.cons rfl (.cons rfl (.cons rfl .nil))) fun base => ?_))))))
       refine tr_if rfl (fun h8 => ?_) (fun h8 => ?_)
       ·refine tr_seq (tr_region (tmv rfl (trl_pv (pv_addI rfl rfl (by omega) (by omega)) ?_)))
        refine tas rfl (trl_nil (tr_ret func130 rfl .nil (by kernel_rfl) (.tmp rfl .nil) () (by show Value.int .i64 _ = Value.int .i64 (zeroF band h v d); congr 1; unfold zeroF; dsimp only; (repeat (first | omega | split))) trivial (holds_of_picks (by with_reducible repeat constructor))))
       ·refine tr_skip (tr_inBlock (tr_seq (tr_region (tmv rfl (trl_pv (pv_minI rfl rfl) (tas rfl (trl_nil (tr_ret func130 rfl .nil (by kernel_rfl) (.tmp rfl .nil) () (by show Value.int .i64 _ = Value.int .i64 (zeroF band h v d); congr 1; unfold zeroF; dsimp only; (repeat (first | omega | split))) trivial (holds_of_picks (by with_reducible repeat constructor))))))))))
    ·refine trl_not rfl (decide_eq_false g42) ?_
     refine trl_not rfl (decide_eq_false g42) ?_
     refine trl_pv (pv_pick_f rfl (decide_eq_false g42) rfl) (tas rfl (trl_nil (tr_keep (ks := [1,2,3,39]) (.cons rfl (.cons rfl (.cons rfl (.cons rfl .nil)))) fun base => ?_)))
     refine tr_else rfl rfl ?_
     refine tr_seq (tr_region (tmv rfl (trl_pv (pv_eql rfl rfl) (tas rfl (trl_nil (tr_if rfl (fun h7 => ?_) (fun h7 => ?_)))))))
     ·refine tr_seq (tr_region (tmv rfl (trl_pv (pv_minI rfl rfl) (trl_pv (pv_addI rfl rfl (by omega) (by omega)) ?_))))
      refine tas rfl (trl_nil (tr_keep (ks := [8]) (.cons rfl .nil) fun base => ?_))
      refine tr_ret func130 rfl .nil (by kernel_rfl) (.tmp rfl .nil) () (by show Value.int .i64 _ = Value.int .i64 (zeroF band h v d); congr 1; unfold zeroF; dsimp only; (repeat (first | omega | split))) trivial (holds_of_picks (by with_reducible repeat constructor))
     ·refine tr_seq (tr_region (tmv rfl (trl_pv (pv_gtr rfl rfl) (tas rfl (trl_nil (tr_keep (ks := [2,3,52]) (.cons rfl (.cons rfl (.cons rfl .nil))) fun base => ?_))))))
      refine tr_if rfl (fun h8 => ?_) (fun h8 => ?_)
      ·refine tr_seq (tr_region (tmv rfl (trl_pv (pv_addI rfl rfl (by omega) (by omega)) ?_)))
       refine tas rfl (trl_nil (tr_ret func130 rfl .nil (by kernel_rfl) (.tmp rfl .nil) () (by show Value.int .i64 _ = Value.int .i64 (zeroF band h v d); congr 1; unfold zeroF; dsimp only; (repeat (first | omega | split))) trivial (holds_of_picks (by with_reducible repeat constructor))))
      ·refine tr_skip (tr_inBlock (tr_seq (tr_region (tmv rfl (trl_pv (pv_minI rfl rfl) (tas rfl (trl_nil (tr_ret func130 rfl .nil (by kernel_rfl) (.tmp rfl .nil) () (by show Value.int .i64 _ = Value.int .i64 (zeroF band h v d); congr 1; unfold zeroF; dsimp only; (repeat (first | omega | split))) trivial (holds_of_picks (by with_reducible repeat constructor))))))))))
theorem x_sign {h v : Int} (h00 : -1 ≤ h) (h01 : h ≤ 1) (v00 : -1 ≤ v) (v01 : v ≤ 1) : Spec Tryz.prog 132 [.int .i64 h, .int .i64 v] [] (fun _ : Unit => ⟨.tuple #[.int .i64 (signK h v), .int .i64 (signT h v)], True, []⟩) := by
 refine spec_of_tr func132 rfl ntmps132 (by kernel_rfl) ?_
 refine tr_seq (tr_region (tas rfl (tas rfl (trl_nil (tr_seq (tr_region (tas rfl (trl_nil (tr_seq (tr_seq (tr_region (tmv rfl (trl_pv (pv_lss rfl rfl) ?_)))))))))))))
 refine tmv rfl (trl_split 2 rfl (fun g9 => ?_) (fun g9 => ?_))
 ·refine trl_not rfl (decide_eq_true g9) ?_
  refine trl_not rfl (decide_eq_true g9) ?_
  refine trl_not rfl (decide_eq_true g9) ?_
  refine trl_not_u rfl (trl_not_u rfl (trl_not rfl (decide_eq_true g9) ?_))
  refine trl_pv (pv_pick_t rfl (decide_eq_true g9) rfl) (trl_nil (tr_keep (ks := [0,1,6,16]) (.cons rfl (.cons rfl (.cons rfl (.cons rfl .nil)))) fun base => ?_))
  refine tr_join (α := Int × Int × Int) (fun t => [(0, .int .i64 t.1), (1, .int .i64 t.2.1), (6, .int .i64 t.2.2)]) (fun t => [pure' (t.1 = (if turned h v = true then 0 - h else h) ∧ t.2.1 = (if turned h v = true then 0 - v else v) ∧ t.2.2 = signT h v)]) (fun K0 hK0 => ?_) ?_
  ·refine tr_then rfl rfl ?_
   have hT : turned h v = true := by unfold turned; simp; omega
   refine tr_region (tmv rfl (trl_pv (pv_subI rfl rfl (by omega) (by omega)) ?_))
   refine tmv rfl (trl_pv (pv_subI rfl rfl (by omega) (by omega)) ?_)
   refine tas rfl (tas rfl (tas rfl (trl_nil (tr_meet hK0 (0 - h, 0 - v, 1) (.cons rfl (.cons rfl (.cons rfl .nil))) (holds_pure ⟨by rw [if_pos hT], by rw [if_pos hT], by rw [signT, if_pos hT]⟩ (holds_of_picks (by with_reducible repeat constructor)))))))
  ·intro ⟨x, y, z⟩ base
   refine Tr.pure fun ⟨hx, hy, hz⟩ => ?_
   dsimp only at hx hy hz
   have hx2 : -1 ≤ x ∧ x ≤ 1 := by rw [hx]; split <;> omega
   have hy2 : -1 ≤ y ∧ y ≤ 1 := by rw [hy]; split <;> omega
   have hk : signK h v = if x = 1 then 12 + y else 9 + y := by unfold signK; dsimp only; rw [← hx, ← hy]
   refine tr_seq (tr_seq (tr_region (tmv rfl (trl_pv (pv_eql rfl rfl) (trl_nil (tr_if rfl (fun h1 => ?_) (fun h1 => ?_)))))))
   ·refine tr_seq (tr_region (tmv rfl (trl_pv (pv_addI rfl rfl (by omega) (by omega)) ?_)))
    refine tmv rfl (tas rfl (tas rfl (trl_nil (tr_keep (ks := [4,5]) (.cons rfl (.cons rfl .nil)) fun base => ?_))))
    refine tr_ret func132 rfl .nil (by kernel_rfl) (.tmp rfl (.tmp rfl .nil)) () (by rw [hk, if_pos h1, ← hz]; rfl) trivial (holds_of_picks (by with_reducible repeat constructor))
   ·refine tr_skip (tr_seq (tr_region (tmv rfl (trl_pv (pv_addI rfl rfl (by omega) (by omega)) ?_))))
    refine tmv rfl (tas rfl (tas rfl (trl_nil (tr_keep (ks := [4,5]) (.cons rfl (.cons rfl .nil)) fun base => ?_))))
    refine tr_ret func132 rfl .nil (by kernel_rfl) (.tmp rfl (.tmp rfl .nil)) () (by rw [hk, if_neg h1, ← hz]; rfl) trivial (holds_of_picks (by with_reducible repeat constructor))
 ·refine trl_pvg rfl (decide_eq_false g9) (pv_move rfl) (trl_pvg rfl (decide_eq_false g9) (pv_eql rfl rfl) (trl_pvg rfl (decide_eq_false g9) (pv_move rfl) (trl_split 5 rfl (fun g12 => ?_) (fun g12 => ?_))))
  ·refine trl_pvg rfl (decide_eq_true g12) (pv_move rfl) (trl_pvg rfl (decide_eq_true g12) (pv_lss rfl rfl) (trl_pvg rfl (decide_eq_false g9) (pv_pick_t rfl (decide_eq_true g12) rfl) (trl_pv (pv_pick_f rfl (decide_eq_false g9) rfl) (trl_nil (tr_keep (ks := [0,1,6,16]) (.cons rfl (.cons rfl (.cons rfl (.cons rfl .nil)))) fun base => ?_)))))
   refine tr_join (α := Int × Int × Int) (fun t => [(0, .int .i64 t.1), (1, .int .i64 t.2.1), (6, .int .i64 t.2.2)]) (fun t => [pure' (t.1 = (if turned h v = true then 0 - h else h) ∧ t.2.1 = (if turned h v = true then 0 - v else v) ∧ t.2.2 = signT h v)]) (fun K0 hK0 => ?_) ?_
   ·refine tr_if rfl (fun h0 => ?_) (fun h0 => ?_)
    ·have hT : turned h v = true := by unfold turned; simp; omega
     refine tr_region (tmv rfl (trl_pv (pv_subI rfl rfl (by omega) (by omega)) ?_))
     refine tmv rfl (trl_pv (pv_subI rfl rfl (by omega) (by omega)) ?_)
     refine tas rfl (tas rfl (tas rfl (trl_nil (tr_meet hK0 (0 - h, 0 - v, 1) (.cons rfl (.cons rfl (.cons rfl .nil))) (holds_pure ⟨by rw [if_pos hT], by rw [if_pos hT], by rw [signT, if_pos hT]⟩ (holds_of_picks (by with_reducible repeat constructor)))))))
    ·refine tr_skip ?_
     have hT : ¬ turned h v = true := by unfold turned; simp; omega
     refine tr_meet hK0 (h, v, 0) (.cons rfl (.cons rfl (.cons rfl .nil))) (holds_pure ⟨by rw [if_neg hT], by rw [if_neg hT], by rw [signT, if_neg hT]⟩ (holds_of_picks (by with_reducible repeat constructor)))
   ·intro ⟨x, y, z⟩ base
    refine Tr.pure fun ⟨hx, hy, hz⟩ => ?_
    dsimp only at hx hy hz
    have hx2 : -1 ≤ x ∧ x ≤ 1 := by rw [hx]; split <;> omega
    have hy2 : -1 ≤ y ∧ y ≤ 1 := by rw [hy]; split <;> omega
    have hk : signK h v = if x = 1 then 12 + y else 9 + y := by unfold signK; dsimp only; rw [← hx, ← hy]
    refine tr_seq (tr_seq (tr_region (tmv rfl (trl_pv (pv_eql rfl rfl) (trl_nil (tr_if rfl (fun h1 => ?_) (fun h1 => ?_)))))))
    ·refine tr_seq (tr_region (tmv rfl (trl_pv (pv_addI rfl rfl (by omega) (by omega)) ?_)))
     refine tmv rfl (tas rfl (tas rfl (trl_nil (tr_keep (ks := [4,5]) (.cons rfl (.cons rfl .nil)) fun base => ?_))))
     refine tr_ret func132 rfl .nil (by kernel_rfl) (.tmp rfl (.tmp rfl .nil)) () (by rw [hk, if_pos h1, ← hz]; rfl) trivial (holds_of_picks (by with_reducible repeat constructor))
    ·refine tr_skip (tr_seq (tr_region (tmv rfl (trl_pv (pv_addI rfl rfl (by omega) (by omega)) ?_))))
     refine tmv rfl (tas rfl (tas rfl (trl_nil (tr_keep (ks := [4,5]) (.cons rfl (.cons rfl .nil)) fun base => ?_))))
     refine tr_ret func132 rfl .nil (by kernel_rfl) (.tmp rfl (.tmp rfl .nil)) () (by rw [hk, if_neg h1, ← hz]; rfl) trivial (holds_of_picks (by with_reducible repeat constructor))
  ·refine trl_not rfl (decide_eq_false g12) ?_
   refine trl_not rfl (decide_eq_false g12) ?_
   refine trl_pvg rfl (decide_eq_false g9) (pv_pick_f rfl (decide_eq_false g12) rfl) (trl_pv (pv_pick_f rfl (decide_eq_false g9) rfl) (trl_nil (tr_keep (ks := [0,1,6,16]) (.cons rfl (.cons rfl (.cons rfl (.cons rfl .nil)))) fun base => ?_)))
   refine tr_join (α := Int × Int × Int) (fun t => [(0, .int .i64 t.1), (1, .int .i64 t.2.1), (6, .int .i64 t.2.2)]) (fun t => [pure' (t.1 = (if turned h v = true then 0 - h else h) ∧ t.2.1 = (if turned h v = true then 0 - v else v) ∧ t.2.2 = signT h v)]) (fun K0 hK0 => ?_) ?_
   ·refine tr_else rfl rfl ?_
    refine tr_skip ?_
    have hT : ¬ turned h v = true := by unfold turned; simp; omega
    refine tr_meet hK0 (h, v, 0) (.cons rfl (.cons rfl (.cons rfl .nil))) (holds_pure ⟨by rw [if_neg hT], by rw [if_neg hT], by rw [signT, if_neg hT]⟩ (holds_of_picks (by with_reducible repeat constructor)))
   ·intro ⟨x, y, z⟩ base
    refine Tr.pure fun ⟨hx, hy, hz⟩ => ?_
    dsimp only at hx hy hz
    have hx2 : -1 ≤ x ∧ x ≤ 1 := by rw [hx]; split <;> omega
    have hy2 : -1 ≤ y ∧ y ≤ 1 := by rw [hy]; split <;> omega
    have hk : signK h v = if x = 1 then 12 + y else 9 + y := by unfold signK; dsimp only; rw [← hx, ← hy]
    refine tr_seq (tr_seq (tr_region (tmv rfl (trl_pv (pv_eql rfl rfl) (trl_nil (tr_if rfl (fun h1 => ?_) (fun h1 => ?_)))))))
    ·refine tr_seq (tr_region (tmv rfl (trl_pv (pv_addI rfl rfl (by omega) (by omega)) ?_)))
     refine tmv rfl (tas rfl (tas rfl (trl_nil (tr_keep (ks := [4,5]) (.cons rfl (.cons rfl .nil)) fun base => ?_))))
     refine tr_ret func132 rfl .nil (by kernel_rfl) (.tmp rfl (.tmp rfl .nil)) () (by rw [hk, if_pos h1, ← hz]; rfl) trivial (holds_of_picks (by with_reducible repeat constructor))
    ·refine tr_skip (tr_seq (tr_region (tmv rfl (trl_pv (pv_addI rfl rfl (by omega) (by omega)) ?_))))
     refine tmv rfl (tas rfl (tas rfl (trl_nil (tr_keep (ks := [4,5]) (.cons rfl (.cons rfl .nil)) fun base => ?_))))
     refine tr_ret func132 rfl .nil (by kernel_rfl) (.tmp rfl (.tmp rfl .nil)) () (by rw [hk, if_neg h1, ← hz]; rfl) trivial (holds_of_picks (by with_reducible repeat constructor))
end Go.Proofs
