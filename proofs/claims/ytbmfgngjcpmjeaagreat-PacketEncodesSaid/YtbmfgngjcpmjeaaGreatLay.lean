/- Contracts of functions that the law reaches, in every memory (part Lay). -/
import Derived.Test.YtbmfgngjcpmjeaaGreatSmall
import Derived.Test.YtbmfgngjcpmjeaaGreatPlainB
set_option linter.unusedVariables false
set_option linter.unusedSimpArgs false
set_option maxRecDepth 10000
namespace Go.Proofs
open Go.Eng Tryz
theorem p_has {style way : Int} : Spec Tryz.prog 116 [.int .i64 style, .int .i64 way] [] (fun _ : Unit => ⟨.bool (decide (hasF style way ≠ 0)), True, []⟩) := by
 refine spec_of_tr func116 rfl ntmps116 (by kernel_rfl) ?_
 refine tr_seq (tr_region (tas rfl (trl_nil (tr_seq (tr_region (tmv rfl (tmv rfl (trl_pv (pv_and rfl rfl) (trl_pv (pv_neq rfl rfl) (tas rfl (trl_nil (tr_ret func116 rfl .nil (by kernel_rfl) (.tmp rfl .nil) () rfl trivial (holds_of_picks (by with_reducible repeat constructor))))))))))))))
theorem p_ends {style k : Int} (hk : k < 1000) : Spec Tryz.prog 92 [.int .i64 style, .int .i64 k] [] (fun _ : Unit => ⟨.bool (endsF style k), True, []⟩) := by
 refine spec_of_tr func92 rfl ntmps92 (by kernel_rfl) ?_
 refine tr_seq (tr_region (tas rfl (trl_nil (tr_seq (tr_block (tr_seq (tr_region (tmv rfl (trl_pv (pv_lss rfl rfl) (tas rfl (trl_nil (tr_if rfl (fun h0 => ?_) (fun h0 => ?_)))))))))))))
 ·refine tr_seq (tr_region (tas rfl (trl_nil (tr_ret func92 rfl .nil (by kernel_rfl) (.tmp rfl .nil) () (congrArg Value.bool ((ends_neg h0).symm)) trivial (holds_of_picks (by with_reducible repeat constructor))))))
 ·refine tr_seq (tr_region (tmv rfl (trl_eff (ef_call rfl rfl call116 (p_has (style := style) (way := 4)) (by with_reducible repeat constructor) fun x10 hx10 => ?_))))
  dsimp only [List.cons_append, List.nil_append]
  refine tas rfl (trl_nil (tr_ifb rfl (fun h1 => ?_) (fun h1 => ?_)))
  ·refine tr_seq (tr_region (tas rfl (trl_nil (tr_keep (ks := [4]) (.cons rfl .nil) fun base => ?_))))
   refine tr_ret func92 rfl .nil (by kernel_rfl) (.tmp rfl .nil) () (congrArg Value.bool ((ends_all h0 (of_decide_eq_true h1)).symm)) trivial (holds_of_picks (by with_reducible repeat constructor))
  ·refine tr_seq (tr_region (tmv rfl (trl_eff (ef_call rfl rfl call116 (p_has (style := style) (way := 1)) (by with_reducible repeat constructor) fun x13 hx13 => ?_))))
   dsimp only [List.cons_append, List.nil_append]
   refine trl_pv (pv_not rfl) (tas rfl (trl_nil (tr_keep (ks := [1,11]) (.cons rfl (.cons rfl .nil)) fun base => ?_)))
   refine tr_ifb rfl (fun h2 => ?_) (fun h2 => ?_)
   ·refine tr_seq (tr_region (tas rfl (trl_nil (tr_ret func92 rfl .nil (by kernel_rfl) (.tmp rfl .nil) () (congrArg Value.bool ((ends_no h0 (of_decide_eq_false h1) (by simpa using h2)).symm)) trivial (holds_of_picks (by with_reducible repeat constructor))))))
   ·refine tr_skip (tr_inBlock (tr_seq (tr_region (tmv rfl (trl_pv (pv_remI rfl rfl (by omega) (by omega)) ?_)))))
    refine trl_pv (pv_eql rfl rfl) (tmv rfl (trl_split 3 rfl (fun g18 => ?_) (fun g18 => ?_)))
    ·refine trl_pvg rfl (decide_eq_true g18) (pv_move rfl) (trl_pvg rfl (decide_eq_true g18) (pv_geq rfl rfl) (trl_pv (pv_pick_t rfl (decide_eq_true g18) rfl) (tmv rfl (trl_split 7 rfl (fun g22 => ?_) (fun g22 => ?_)))))
     ·refine trl_not rfl (decide_eq_true g22) ?_
      refine trl_not rfl (decide_eq_true g22) ?_
      refine trl_not rfl (decide_eq_true g22) ?_
      refine trl_not rfl (decide_eq_true g22) ?_
      refine trl_not_u rfl (trl_not_u rfl (trl_not rfl (decide_eq_true g22) ?_))
      refine trl_pv (pv_pick_t rfl (decide_eq_true g22) rfl) (tas rfl (trl_nil (tr_keep (ks := [4]) (.cons rfl .nil) fun base => ?_)))
      refine tr_ret func92 rfl .nil (by kernel_rfl) (.tmp rfl .nil) () (congrArg Value.bool ((bool_dec (.inl ⟨g18, g22⟩)).trans (ends_some h0 (of_decide_eq_false h1) (by simpa using h2)).symm)) trivial (holds_of_picks (by with_reducible repeat constructor))
     ·refine trl_pvg rfl (decide_eq_false g22) (pv_move rfl) (trl_pvg rfl (decide_eq_false g22) (pv_remI rfl rfl (by omega) (by omega)) ?_)
      refine trl_pvg rfl (decide_eq_false g22) (pv_eql rfl rfl) (trl_pvg rfl (decide_eq_false g22) (pv_move rfl) (trl_split 11 rfl (fun g26 => ?_) (fun g26 => ?_)))
      ·refine trl_pvg rfl (decide_eq_true g26) (pv_move rfl) (trl_pvg rfl (decide_eq_true g26) (pv_geq rfl rfl) (trl_pvg rfl (decide_eq_false g22) (pv_pick_t rfl (decide_eq_true g26) rfl) (trl_pv (pv_pick_f rfl (decide_eq_false g22) rfl) (tas rfl (trl_nil (tr_keep (ks := [4]) (.cons rfl .nil) fun base => ?_))))))
       refine tr_ret func92 rfl .nil (by kernel_rfl) (.tmp rfl .nil) () (congrArg Value.bool ((dec_dec (by omega)).trans (ends_some h0 (of_decide_eq_false h1) (by simpa using h2)).symm)) trivial (holds_of_picks (by with_reducible repeat constructor))
      ·refine trl_not rfl (decide_eq_false g26) ?_
       refine trl_not rfl (decide_eq_false g26) ?_
       refine trl_pvg rfl (decide_eq_false g22) (pv_pick_f rfl (decide_eq_false g26) rfl) (trl_pv (pv_pick_f rfl (decide_eq_false g22) rfl) (tas rfl (trl_nil (tr_keep (ks := [4]) (.cons rfl .nil) fun base => ?_))))
       refine tr_ret func92 rfl .nil (by kernel_rfl) (.tmp rfl .nil) () (congrArg Value.bool ((bool_ndec (by omega)).trans (ends_some h0 (of_decide_eq_false h1) (by simpa using h2)).symm)) trivial (holds_of_picks (by with_reducible repeat constructor))
    ·refine trl_not rfl (decide_eq_false g18) ?_
     refine trl_not rfl (decide_eq_false g18) ?_
     refine trl_pv (pv_pick_f rfl (decide_eq_false g18) rfl) (tmv rfl (trl_pvg rfl rfl (pv_move rfl) ?_))
     refine trl_pvg rfl rfl (pv_remI rfl rfl (by omega) (by omega)) ?_
     refine trl_pvg rfl rfl (pv_eql rfl rfl) ?_
     refine trl_pvg rfl rfl (pv_move rfl) ?_
     refine trl_split 11 rfl (fun g26 => ?_) (fun g26 => ?_)
     ·refine trl_pvg rfl (decide_eq_true g26) (pv_move rfl) (trl_pvg rfl (decide_eq_true g26) (pv_geq rfl rfl) (trl_pvg rfl rfl (pv_pick_t rfl (decide_eq_true g26) rfl) ?_))
      refine trl_pv (pv_pick_f rfl rfl rfl) (tas rfl (trl_nil (tr_keep (ks := [4]) (.cons rfl .nil) fun base => ?_)))
      refine tr_ret func92 rfl .nil (by kernel_rfl) (.tmp rfl .nil) () (congrArg Value.bool ((dec_dec (by omega)).trans (ends_some h0 (of_decide_eq_false h1) (by simpa using h2)).symm)) trivial (holds_of_picks (by with_reducible repeat constructor))
     ·refine trl_not rfl (decide_eq_false g26) ?_
      refine trl_not rfl (decide_eq_false g26) ?_
      refine trl_pvg rfl rfl (pv_pick_f rfl (decide_eq_false g26) rfl) ?_
      refine trl_pv (pv_pick_f rfl rfl rfl) (tas rfl (trl_nil (tr_keep (ks := [4]) (.cons rfl .nil) fun base => ?_)))
      refine tr_ret func92 rfl .nil (by kernel_rfl) (.tmp rfl .nil) () (congrArg Value.bool ((bool_ndec (by omega)).trans (ends_some h0 (of_decide_eq_false h1) (by simpa using h2)).symm)) trivial (holds_of_picks (by with_reducible repeat constructor))
theorem r_kind {k : Int} (hk0 : 0 ≤ k) (hk : k < 1000) : Spec Tryz.prog 100 [.int .i64 k] [] (fun _ : Unit => ⟨.int .i64 (kindF k), True, []⟩) := by
 refine spec_of_tr func100 rfl ntmps100 (by kernel_rfl) ?_
 refine tr_seq (tr_region (tas rfl (trl_nil (tr_seq (tr_seq (tr_region (tmv rfl (trl_pv (pv_eql rfl rfl) (trl_nil (tr_if rfl (fun h0 => ?_) (fun h0 => ?_)))))))))))
 ·refine tr_seq (tr_region (tas rfl (trl_nil (tr_ret func100 rfl .nil (by kernel_rfl) (.tmp rfl .nil) () (by rw [show kindF k = 2 from if_pos h0]; rfl) trivial (holds_of_picks (by with_reducible repeat constructor))))))
 ·refine tr_skip (tr_seq (tr_region (tmv rfl (trl_pv (pv_subI rfl rfl (by omega) (by omega)) ?_))))
  refine trl_pv (pv_remI rfl rfl (by omega) (by omega)) ?_
  refine tas rfl (trl_nil (tr_ret func100 rfl .nil (by kernel_rfl) (.tmp rfl .nil) () (by rw [show kindF k = (k - 1) % 3 from if_neg h0]; rfl) trivial (holds_of_picks (by with_reducible repeat constructor))))
theorem r_cnt {n : Int} (hn : n < 1000) : Spec Tryz.prog 55 [.int .i64 n] [] (fun _ : Unit => ⟨.int .i64 (if n < 1 then 0 else 3 * n - 2), True, []⟩) := by
 refine spec_of_tr func55 rfl ntmps55 (by kernel_rfl) ?_
 refine tr_seq (tr_region (tas rfl (trl_nil (tr_seq (tr_seq (tr_region (tmv rfl (trl_pv (pv_lss rfl rfl) (trl_nil (tr_if rfl (fun h0 => ?_) (fun h0 => ?_)))))))))))
 ·refine tr_seq (tr_region (tas rfl (trl_nil (tr_ret func55 rfl .nil (by kernel_rfl) (.tmp rfl .nil) () (by rw [if_pos h0]; rfl) trivial (holds_of_picks (by with_reducible repeat constructor))))))
 ·refine tr_skip (tr_seq (tr_region (tmv rfl (trl_pv (pv_mulI rfl rfl (by omega) (by omega)) ?_))))
  refine trl_pv (pv_subI rfl rfl (by omega) (by omega)) ?_
  refine tas rfl (trl_nil (tr_ret func55 rfl .nil (by kernel_rfl) (.tmp rfl .nil) () (by rw [if_neg h0]; rfl) trivial (holds_of_picks (by with_reducible repeat constructor))))
theorem r_ends8 {style k : Int} (hk : k < 1000) : Spec Tryz.prog 62 [.int .i64 style, .int .i64 k] [] (fun _ : Unit => ⟨.bool (endsF style k), True, []⟩) := by
 refine spec_of_tr func62 rfl ntmps62 (by kernel_rfl) ?_
 refine tr_seq (tr_region (tas rfl (trl_nil (tr_seq (tr_block (tr_seq (tr_region (tmv rfl (trl_pv (pv_lss rfl rfl) (tas rfl (trl_nil (tr_if rfl (fun h0 => ?_) (fun h0 => ?_)))))))))))))
 ·refine tr_seq (tr_region (tas rfl (trl_nil (tr_ret func62 rfl .nil (by kernel_rfl) (.tmp rfl .nil) () (congrArg Value.bool ((ends_neg h0).symm)) trivial (holds_of_picks (by with_reducible repeat constructor))))))
 ·refine tr_seq (tr_region (tmv rfl (trl_pv (pv_and rfl rfl) (trl_pv (pv_neq rfl rfl) (tas rfl (trl_nil (tr_keep (ks := [0,1,8]) (.cons rfl (.cons rfl (.cons rfl .nil))) fun base => ?_)))))))
  refine tr_if rfl (fun h1 => ?_) (fun h1 => ?_)
  ·refine tr_seq (tr_region (tas rfl (trl_nil (tr_ret func62 rfl .nil (by kernel_rfl) (.tmp rfl .nil) () (congrArg Value.bool ((ends_all h0 h1).symm)) trivial (holds_of_picks (by with_reducible repeat constructor))))))
  ·refine tr_seq (tr_region (tmv rfl (trl_pv (pv_and rfl rfl) (trl_pv (pv_eql rfl rfl) (tas rfl (trl_nil (tr_if rfl (fun h2 => ?_) (fun h2 => ?_))))))))
   ·refine tr_seq (tr_region (tas rfl (trl_nil (tr_keep (ks := [4]) (.cons rfl .nil) fun base => ?_))))
    refine tr_ret func62 rfl .nil (by kernel_rfl) (.tmp rfl .nil) () (congrArg Value.bool ((ends_no h0 (fun e => e (by unfold hasF; simpa using h1)) h2).symm)) trivial (holds_of_picks (by with_reducible repeat constructor))
   ·refine tr_skip (tr_inBlock (tr_seq ?_))
    have hk2 : kindF k = 2 ↔ k % 3 = 0 := by unfold kindF; split <;> omega
    have hk1 : kindF k = 1 ↔ k % 3 = 2 := by unfold kindF; split <;> omega
    refine tr_region (tmv rfl (trl_eff (ef_call rfl rfl call100 (r_kind (k := k) (by omega) (by omega)) (by with_reducible repeat constructor) fun x17 hx17 => ?_)))
    dsimp only [List.cons_append, List.nil_append]
    refine trl_pv (pv_eql rfl rfl) (tmv rfl (trl_split 3 rfl (fun g19 => ?_) (fun g19 => ?_)))
    ·refine trl_pvg rfl (decide_eq_true g19) (pv_move rfl) (trl_pvg rfl (decide_eq_true g19) (pv_geq rfl rfl) (trl_pv (pv_pick_t rfl (decide_eq_true g19) rfl) (tmv rfl (trl_split 7 rfl (fun g23 => ?_) (fun g23 => ?_)))))
     ·refine trl_not rfl (decide_eq_true g23) ?_
      refine trl_not rfl (decide_eq_true g23) ?_
      refine trl_not rfl (decide_eq_true g23) ?_
      refine trl_not rfl (decide_eq_true g23) ?_
      refine trl_not_u rfl (trl_not_u rfl (trl_not rfl (decide_eq_true g23) ?_))
      refine trl_pv (pv_pick_t rfl (decide_eq_true g23) rfl) (tas rfl (trl_nil (tr_keep (ks := [4]) (.cons rfl .nil) fun base => ?_)))
      refine tr_ret func62 rfl .nil (by kernel_rfl) (.tmp rfl .nil) () (congrArg Value.bool ((bool_dec (.inl ⟨hk2.1 g19, g23⟩)).trans (ends_some h0 (fun e => e (by unfold hasF; simpa using h1)) h2).symm)) trivial (holds_of_picks (by with_reducible repeat constructor))
     ·refine trl_pvg rfl (decide_eq_false g23) (pv_move rfl) (trl_effg rfl (decide_eq_false g23) (ef_call rfl rfl call100 (r_kind (k := k) (by omega) (by omega)) (by with_reducible repeat constructor) fun x25 hx25 => ?_))
      dsimp only [List.cons_append, List.nil_append]
      refine trl_pvg rfl (decide_eq_false g23) (pv_eql rfl rfl) (trl_pvg rfl (decide_eq_false g23) (pv_move rfl) (trl_split 11 rfl (fun g27 => ?_) (fun g27 => ?_)))
      ·refine trl_pvg rfl (decide_eq_true g27) (pv_move rfl) (trl_pvg rfl (decide_eq_true g27) (pv_geq rfl rfl) (trl_pvg rfl (decide_eq_false g23) (pv_pick_t rfl (decide_eq_true g27) rfl) (trl_pv (pv_pick_f rfl (decide_eq_false g23) rfl) (tas rfl (trl_nil (tr_keep (ks := [4]) (.cons rfl .nil) fun base => ?_))))))
       refine tr_ret func62 rfl .nil (by kernel_rfl) (.tmp rfl .nil) () (congrArg Value.bool ((dec_dec (by omega)).trans (ends_some h0 (fun e => e (by unfold hasF; simpa using h1)) h2).symm)) trivial (holds_of_picks (by with_reducible repeat constructor))
      ·refine trl_not rfl (decide_eq_false g27) ?_
       refine trl_not rfl (decide_eq_false g27) ?_
       refine trl_pvg rfl (decide_eq_false g23) (pv_pick_f rfl (decide_eq_false g27) rfl) (trl_pv (pv_pick_f rfl (decide_eq_false g23) rfl) (tas rfl (trl_nil (tr_keep (ks := [4]) (.cons rfl .nil) fun base => ?_))))
       refine tr_ret func62 rfl .nil (by kernel_rfl) (.tmp rfl .nil) () (congrArg Value.bool ((bool_ndec (by omega)).trans (ends_some h0 (fun e => e (by unfold hasF; simpa using h1)) h2).symm)) trivial (holds_of_picks (by with_reducible repeat constructor))
    ·refine trl_not rfl (decide_eq_false g19) ?_
     refine trl_not rfl (decide_eq_false g19) ?_
     refine trl_pv (pv_pick_f rfl (decide_eq_false g19) rfl) (tmv rfl (trl_pvg rfl rfl (pv_move rfl) ?_))
     refine trl_effg rfl rfl (ef_call rfl rfl call100 (r_kind (k := k) (by omega) (by omega)) (by with_reducible repeat constructor) fun x25 hx25 => ?_)
     dsimp only [List.cons_append, List.nil_append]
     refine trl_pvg rfl rfl (pv_eql rfl rfl) ?_
     refine trl_pvg rfl rfl (pv_move rfl) ?_
     refine trl_split 11 rfl (fun g27 => ?_) (fun g27 => ?_)
     ·refine trl_pvg rfl (decide_eq_true g27) (pv_move rfl) (trl_pvg rfl (decide_eq_true g27) (pv_geq rfl rfl) (trl_pvg rfl rfl (pv_pick_t rfl (decide_eq_true g27) rfl) ?_))
      refine trl_pv (pv_pick_f rfl rfl rfl) (tas rfl (trl_nil (tr_keep (ks := [4]) (.cons rfl .nil) fun base => ?_)))
      refine tr_ret func62 rfl .nil (by kernel_rfl) (.tmp rfl .nil) () (congrArg Value.bool ((dec_dec (by omega)).trans (ends_some h0 (fun e => e (by unfold hasF; simpa using h1)) h2).symm)) trivial (holds_of_picks (by with_reducible repeat constructor))
     ·refine trl_not rfl (decide_eq_false g27) ?_
      refine trl_not rfl (decide_eq_false g27) ?_
      refine trl_pvg rfl rfl (pv_pick_f rfl (decide_eq_false g27) rfl) ?_
      refine trl_pv (pv_pick_f rfl rfl rfl) (tas rfl (trl_nil (tr_keep (ks := [4]) (.cons rfl .nil) fun base => ?_)))
      refine tr_ret func62 rfl .nil (by kernel_rfl) (.tmp rfl .nil) () (congrArg Value.bool ((bool_ndec (by omega)).trans (ends_some h0 (fun e => e (by unfold hasF; simpa using h1)) h2).symm)) trivial (holds_of_picks (by with_reducible repeat constructor))
theorem r_ends {style k : Int} (hk : k < 1000) : Spec Tryz.prog 97 [.int .i64 style, .int .i64 k] [] (fun _ : Unit => ⟨.bool (endsF style k), True, []⟩) := by
 refine spec_of_tr func97 rfl ntmps97 (by kernel_rfl) ?_
 refine tr_seq (tr_region (tas rfl (trl_nil (tr_seq (tr_region (tmv rfl (tmv rfl (trl_eff (ef_call rfl rfl call62 (r_ends8 (style := style) (k := k) hk) (by with_reducible repeat constructor) fun x7 hx7 => ?_)))))))))
 dsimp only [List.cons_append, List.nil_append]
 refine tas rfl (trl_nil (tr_ret func97 rfl .nil (by kernel_rfl) (.tmp rfl .nil) () rfl trivial (holds_of_picks (by with_reducible repeat constructor))))
end Go.Proofs
