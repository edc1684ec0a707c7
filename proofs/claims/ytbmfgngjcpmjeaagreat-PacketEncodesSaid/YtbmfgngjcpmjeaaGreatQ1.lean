/- Contracts of functions that the law reaches, in every memory (part Q1). -/
import Derived.Test.YtbmfgngjcpmjeaaGreatSmall
import Derived.Test.YtbmfgngjcpmjeaaGreatLay
import Derived.Test.YtbmfgngjcpmjeaaGreatEngE
import Derived.Test.YtbmfgngjcpmjeaaGreatPlainD
set_option linter.unusedVariables false
set_option linter.unusedSimpArgs false
set_option maxRecDepth 10000
namespace Go.Proofs
open Go.Eng Tryz
def encQ4 (q : Int × Int × Int × Int) : List Value := [.int .i64 q.1, .int .i64 q.2.1, .int .i64 q.2.2.1, .int .i64 q.2.2.2]
theorem encQ4_len (q : Int × Int × Int × Int) : (encQ4 q).length = 4 := rfl
theorem rowQ_get {i : Int} (h0 : 0 ≤ i) (h1 : i ≤ 46) {o : Nat} {u : Value} (hu : (encQ4 (rowQ i))[o]? = some u) : (tblQ.flatMap encQ4)[i.toNat * 4 + o]? = some u := by
  refine flat_get encQ4_len ?_ hu
  have hl : i.toNat < tblQ.length := by simp [tblQ]; omega
  unfold rowQ
  rw [List.getD_eq_getElem?_getD, List.getElem?_eq_getElem hl]; rfl
theorem s_begin {k : Int} : Spec Tryz.prog 119 [.int .i64 k] [] (fun _ : Unit => ⟨.int .i64 (beginF k), True, []⟩) := by
 refine spec_of_tr func119 rfl ntmps119 (by kernel_rfl) ?_
 refine tr_seq (tr_region (tas rfl (trl_nil (tr_seq (tr_seq (tr_region (tmv rfl (trl_nil (tr_block (tr_seq (tr_region (trl_pv (pv_eql rfl rfl) (tas rfl ?_)))))))))))))
 refine trl_nil (tr_if rfl (fun h0 => ?_) (fun h0 => ?_))
 ·refine tr_seq (tr_region (tas rfl (trl_nil (tr_ret func119 rfl .nil (by kernel_rfl) (.tmp rfl .nil) () (by rw [show beginF k = 4 from if_pos h0]; rfl) trivial (holds_of_picks (by with_reducible repeat constructor))))))
 ·refine tr_seq (tr_region (trl_pv (pv_eql rfl rfl) (tas rfl (trl_nil (tr_if rfl (fun h1 => ?_) (fun h1 => ?_))))))
  ·refine tr_seq (tr_region (tas rfl (trl_nil (tr_ret func119 rfl .nil (by kernel_rfl) (.tmp rfl .nil) () (by rw [show beginF k = 3 from (if_neg h0).trans (if_pos h1)]; rfl) trivial (holds_of_picks (by with_reducible repeat constructor))))))
  ·refine tr_seq (tr_region (trl_pv (pv_eql rfl rfl) (tas rfl (trl_nil (tr_keep (ks := [8]) (.cons rfl .nil) fun base => ?_)))))
   refine tr_if rfl (fun h2 => ?_) (fun h2 => ?_)
   ·refine tr_seq (tr_region (tas rfl (trl_nil (tr_ret func119 rfl .nil (by kernel_rfl) (.tmp rfl .nil) () (by rw [show beginF k = 46 from (if_neg h0).trans ((if_neg h1).trans (if_pos h2))]; rfl) trivial (holds_of_picks (by with_reducible repeat constructor))))))
   ·refine tr_skip (tr_inBlock (tr_seq (tr_region (tas rfl (trl_nil (tr_ret func119 rfl .nil (by kernel_rfl) (.tmp rfl .nil) () (by rw [show beginF k = 0 from (if_neg h0).trans ((if_neg h1).trans (if_neg h2))]; rfl) trivial (holds_of_picks (by with_reducible repeat constructor))))))))
set_option maxHeartbeats 8000000 in
theorem s_rows : Spec Tryz.prog 141 [] [] (fun _ : Unit => ⟨.agg (tblQ.flatMap encQ4).toArray, True, []⟩) := by
 refine spec_of_tr func141 rfl ntmps141 (by kernel_rfl) ?_
 refine tr_seq (tr_region (trl_eff (ef_alloc zeroValue225 (by dsimp only [cellsL, List.toList_toArray]) fun r0 => ?_)))
 refine trl_nil (tr_seq (tr_region (trl_pv (pv_build_a runUnderlying224 sizeOf3 zeroValue224 rfl rfl rfl (by dsimp only [flatC, cellsL, List.toList_toArray, List.cons_append, List.nil_append, List.append_nil])) ?_)))
 refine trl_pv (pv_build_a runUnderlying224 sizeOf3 zeroValue224 rfl rfl rfl (by dsimp only [flatC, cellsL, List.toList_toArray, List.cons_append, List.nil_append, List.append_nil])) ?_
 refine trl_pv (pv_build_a runUnderlying224 sizeOf3 zeroValue224 rfl rfl rfl (by dsimp only [flatC, cellsL, List.toList_toArray, List.cons_append, List.nil_append, List.append_nil])) ?_
 refine trl_pv (pv_build_a runUnderlying224 sizeOf3 zeroValue224 rfl rfl rfl (by dsimp only [flatC, cellsL, List.toList_toArray, List.cons_append, List.nil_append, List.append_nil])) ?_
 refine trl_pv (pv_build_a runUnderlying224 sizeOf3 zeroValue224 rfl rfl rfl (by dsimp only [flatC, cellsL, List.toList_toArray, List.cons_append, List.nil_append, List.append_nil])) ?_
 refine trl_pv (pv_build_a runUnderlying224 sizeOf3 zeroValue224 rfl rfl rfl (by dsimp only [flatC, cellsL, List.toList_toArray, List.cons_append, List.nil_append, List.append_nil])) ?_
 refine trl_pv (pv_build_a runUnderlying224 sizeOf3 zeroValue224 rfl rfl rfl (by dsimp only [flatC, cellsL, List.toList_toArray, List.cons_append, List.nil_append, List.append_nil])) ?_
 refine trl_pv (pv_build_a runUnderlying224 sizeOf3 zeroValue224 rfl rfl rfl (by dsimp only [flatC, cellsL, List.toList_toArray, List.cons_append, List.nil_append, List.append_nil])) ?_
 refine trl_pv (pv_build_a runUnderlying224 sizeOf3 zeroValue224 rfl rfl rfl (by dsimp only [flatC, cellsL, List.toList_toArray, List.cons_append, List.nil_append, List.append_nil])) ?_
 refine trl_pv (pv_build_a runUnderlying224 sizeOf3 zeroValue224 rfl rfl rfl (by dsimp only [flatC, cellsL, List.toList_toArray, List.cons_append, List.nil_append, List.append_nil])) ?_
 refine trl_pv (pv_build_a runUnderlying224 sizeOf3 zeroValue224 rfl rfl rfl (by dsimp only [flatC, cellsL, List.toList_toArray, List.cons_append, List.nil_append, List.append_nil])) ?_
 refine trl_pv (pv_build_a runUnderlying224 sizeOf3 zeroValue224 rfl rfl rfl (by dsimp only [flatC, cellsL, List.toList_toArray, List.cons_append, List.nil_append, List.append_nil])) ?_
 refine trl_pv (pv_build_a runUnderlying224 sizeOf3 zeroValue224 rfl rfl rfl (by dsimp only [flatC, cellsL, List.toList_toArray, List.cons_append, List.nil_append, List.append_nil])) ?_
 refine trl_pv (pv_build_a runUnderlying224 sizeOf3 zeroValue224 rfl rfl rfl (by dsimp only [flatC, cellsL, List.toList_toArray, List.cons_append, List.nil_append, List.append_nil])) ?_
 refine trl_pv (pv_build_a runUnderlying224 sizeOf3 zeroValue224 rfl rfl rfl (by dsimp only [flatC, cellsL, List.toList_toArray, List.cons_append, List.nil_append, List.append_nil])) ?_
 refine trl_pv (pv_build_a runUnderlying224 sizeOf3 zeroValue224 rfl rfl rfl (by dsimp only [flatC, cellsL, List.toList_toArray, List.cons_append, List.nil_append, List.append_nil])) ?_
 refine trl_pv (pv_build_a runUnderlying224 sizeOf3 zeroValue224 rfl rfl rfl (by dsimp only [flatC, cellsL, List.toList_toArray, List.cons_append, List.nil_append, List.append_nil])) ?_
 refine trl_pv (pv_build_a runUnderlying224 sizeOf3 zeroValue224 rfl rfl rfl (by dsimp only [flatC, cellsL, List.toList_toArray, List.cons_append, List.nil_append, List.append_nil])) ?_
 refine trl_pv (pv_build_a runUnderlying224 sizeOf3 zeroValue224 rfl rfl rfl (by dsimp only [flatC, cellsL, List.toList_toArray, List.cons_append, List.nil_append, List.append_nil])) ?_
 refine trl_pv (pv_build_a runUnderlying224 sizeOf3 zeroValue224 rfl rfl rfl (by dsimp only [flatC, cellsL, List.toList_toArray, List.cons_append, List.nil_append, List.append_nil])) ?_
 refine trl_pv (pv_build_a runUnderlying224 sizeOf3 zeroValue224 rfl rfl rfl (by dsimp only [flatC, cellsL, List.toList_toArray, List.cons_append, List.nil_append, List.append_nil])) ?_
 refine trl_pv (pv_build_a runUnderlying224 sizeOf3 zeroValue224 rfl rfl rfl (by dsimp only [flatC, cellsL, List.toList_toArray, List.cons_append, List.nil_append, List.append_nil])) ?_
 refine trl_pv (pv_build_a runUnderlying224 sizeOf3 zeroValue224 rfl rfl rfl (by dsimp only [flatC, cellsL, List.toList_toArray, List.cons_append, List.nil_append, List.append_nil])) ?_
 refine trl_pv (pv_build_a runUnderlying224 sizeOf3 zeroValue224 rfl rfl rfl (by dsimp only [flatC, cellsL, List.toList_toArray, List.cons_append, List.nil_append, List.append_nil])) ?_
 refine trl_pv (pv_build_a runUnderlying224 sizeOf3 zeroValue224 rfl rfl rfl (by dsimp only [flatC, cellsL, List.toList_toArray, List.cons_append, List.nil_append, List.append_nil])) ?_
 refine trl_pv (pv_build_a runUnderlying224 sizeOf3 zeroValue224 rfl rfl rfl (by dsimp only [flatC, cellsL, List.toList_toArray, List.cons_append, List.nil_append, List.append_nil])) ?_
 refine trl_pv (pv_build_a runUnderlying224 sizeOf3 zeroValue224 rfl rfl rfl (by dsimp only [flatC, cellsL, List.toList_toArray, List.cons_append, List.nil_append, List.append_nil])) ?_
 refine trl_pv (pv_build_a runUnderlying224 sizeOf3 zeroValue224 rfl rfl rfl (by dsimp only [flatC, cellsL, List.toList_toArray, List.cons_append, List.nil_append, List.append_nil])) ?_
 refine trl_pv (pv_build_a runUnderlying224 sizeOf3 zeroValue224 rfl rfl rfl (by dsimp only [flatC, cellsL, List.toList_toArray, List.cons_append, List.nil_append, List.append_nil])) ?_
 refine trl_pv (pv_build_a runUnderlying224 sizeOf3 zeroValue224 rfl rfl rfl (by dsimp only [flatC, cellsL, List.toList_toArray, List.cons_append, List.nil_append, List.append_nil])) ?_
 refine trl_pv (pv_build_a runUnderlying224 sizeOf3 zeroValue224 rfl rfl rfl (by dsimp only [flatC, cellsL, List.toList_toArray, List.cons_append, List.nil_append, List.append_nil])) ?_
 refine trl_pv (pv_build_a runUnderlying224 sizeOf3 zeroValue224 rfl rfl rfl (by dsimp only [flatC, cellsL, List.toList_toArray, List.cons_append, List.nil_append, List.append_nil])) ?_
 refine trl_pv (pv_build_a runUnderlying224 sizeOf3 zeroValue224 rfl rfl rfl (by dsimp only [flatC, cellsL, List.toList_toArray, List.cons_append, List.nil_append, List.append_nil])) ?_
 refine trl_pv (pv_build_a runUnderlying224 sizeOf3 zeroValue224 rfl rfl rfl (by dsimp only [flatC, cellsL, List.toList_toArray, List.cons_append, List.nil_append, List.append_nil])) ?_
 refine trl_pv (pv_build_a runUnderlying224 sizeOf3 zeroValue224 rfl rfl rfl (by dsimp only [flatC, cellsL, List.toList_toArray, List.cons_append, List.nil_append, List.append_nil])) ?_
 refine trl_pv (pv_build_a runUnderlying224 sizeOf3 zeroValue224 rfl rfl rfl (by dsimp only [flatC, cellsL, List.toList_toArray, List.cons_append, List.nil_append, List.append_nil])) ?_
 refine trl_pv (pv_build_a runUnderlying224 sizeOf3 zeroValue224 rfl rfl rfl (by dsimp only [flatC, cellsL, List.toList_toArray, List.cons_append, List.nil_append, List.append_nil])) ?_
 refine trl_pv (pv_build_a runUnderlying224 sizeOf3 zeroValue224 rfl rfl rfl (by dsimp only [flatC, cellsL, List.toList_toArray, List.cons_append, List.nil_append, List.append_nil])) ?_
 refine trl_pv (pv_build_a runUnderlying224 sizeOf3 zeroValue224 rfl rfl rfl (by dsimp only [flatC, cellsL, List.toList_toArray, List.cons_append, List.nil_append, List.append_nil])) ?_
 refine trl_pv (pv_build_a runUnderlying224 sizeOf3 zeroValue224 rfl rfl rfl (by dsimp only [flatC, cellsL, List.toList_toArray, List.cons_append, List.nil_append, List.append_nil])) ?_
 refine trl_pv (pv_build_a runUnderlying224 sizeOf3 zeroValue224 rfl rfl rfl (by dsimp only [flatC, cellsL, List.toList_toArray, List.cons_append, List.nil_append, List.append_nil])) ?_
 refine trl_pv (pv_build_a runUnderlying224 sizeOf3 zeroValue224 rfl rfl rfl (by dsimp only [flatC, cellsL, List.toList_toArray, List.cons_append, List.nil_append, List.append_nil])) ?_
 refine trl_pv (pv_build_a runUnderlying224 sizeOf3 zeroValue224 rfl rfl rfl (by dsimp only [flatC, cellsL, List.toList_toArray, List.cons_append, List.nil_append, List.append_nil])) ?_
 refine trl_pv (pv_build_a runUnderlying224 sizeOf3 zeroValue224 rfl rfl rfl (by dsimp only [flatC, cellsL, List.toList_toArray, List.cons_append, List.nil_append, List.append_nil])) ?_
 refine trl_pv (pv_build_a runUnderlying224 sizeOf3 zeroValue224 rfl rfl rfl (by dsimp only [flatC, cellsL, List.toList_toArray, List.cons_append, List.nil_append, List.append_nil])) ?_
 refine trl_pv (pv_build_a runUnderlying224 sizeOf3 zeroValue224 rfl rfl rfl (by dsimp only [flatC, cellsL, List.toList_toArray, List.cons_append, List.nil_append, List.append_nil])) ?_
 refine trl_pv (pv_build_a runUnderlying224 sizeOf3 zeroValue224 rfl rfl rfl (by dsimp only [flatC, cellsL, List.toList_toArray, List.cons_append, List.nil_append, List.append_nil])) ?_
 refine trl_pv (pv_build_a (vs := tblQ.map fun q => .agg (encQ4 q).toArray) (cs := tblQ.flatMap encQ4) runUnderlying225 sizeOf224 zeroValue225 (by kernel_rfl) (by kernel_rfl) (by kernel_rfl) (by kernel_rfl)) ?_
 refine trl_eff0 (ef_store_agg (vs := tblQ.flatMap encQ4) (cs' := tblQ.flatMap encQ4) sizeOf225 rfl rfl (by kernel_rfl) (by with_reducible repeat constructor) (by kernel_rfl) ?_)
 refine trl_nil (tr_keep (ks := [0]) (.cons rfl .nil) fun base => ?_)
 refine tr_ret func141 rfl .nil (by kernel_rfl) (.cell rfl (loadVar_agg isAgg225 sizeOf225 (by with_reducible repeat constructor) (by kernel_rfl)) .nil) () rfl trivial (holds_of_picks (by with_reducible repeat constructor))
theorem s_at {i : Int} (h0 : 0 ≤ i) (h1 : i ≤ 46) : Spec Tryz.prog 139 [.int .i64 i] [] (fun _ : Unit => ⟨.agg #[.int .i64 (rowQ i).1, .int .i64 (rowQ i).2.1, .int .i64 (rowQ i).2.2.1, .bool (decide ((rowQ i).2.2.2 = 1))], True, []⟩) := by
 refine spec_of_tr func139 rfl ntmps139 (by kernel_rfl) ?_
 refine tr_seq (tr_region (trl_eff (ef_alloc zeroValue218 (by dsimp only [cellsL, List.toList_toArray]) fun r2 => ?_)))
 refine trl_nil (tr_seq (tr_seq (tr_region (tmv rfl (trl_pv (pv_lss rfl rfl) (tmv rfl (trl_pvg rfl (decide_eq_false (by omega)) (pv_move rfl) ?_)))))))
 refine trl_pvg rfl (decide_eq_false (by omega)) (pv_gtr rfl rfl) ?_
 refine trl_pv (pv_pick_f rfl (decide_eq_false (by omega)) rfl) ?_
 refine trl_nil (tr_else rfl (decide_eq_false (by omega)) ?_)
 refine tr_skip (tr_seq (tr_region (trl_eff (ef_call rfl rfl call141 (s_rows) (by with_reducible repeat constructor) fun x11 hx11 => ?_))))
 dsimp only [List.cons_append, List.nil_append]
 refine trl_eff (ef_alloc zeroValue225 (by dsimp only [cellsL, List.toList_toArray]) fun r3 => ?_)
 refine trl_eff0 (ef_store_agg (vs := tblQ.flatMap encQ4) (cs' := tblQ.flatMap encQ4) sizeOf225 rfl rfl (by kernel_rfl) (by with_reducible repeat constructor) (by kernel_rfl) ?_)
 refine trl_nil (tr_keep (ks := [0,2,3]) (.cons rfl (.cons rfl (.cons rfl .nil))) fun base => ?_)
 refine tr_seq (tr_draww (rem := [0,1,2,3,4,5,6,7,8,9,10,11,12,13,14,15,16,17,18]) (by kernel_rfl) (by kernel_rfl) rfl ?_)
 refine twm 0 [1,2,3,17,18] rfl (by kernel_rfl) rfl rfl (trw_pure 1 [2,3,17,18] rfl (by kernel_rfl) rfl (pv_indexAddr_a runUnderlying225 sizeOf224 rfl rfl (by omega) (by omega)) ?_)
 refine trw_pure 2 [3,17,18] rfl (by kernel_rfl) rfl (pv_indexAddr_a runUnderlying224 sizeOf3 rfl rfl (by omega) (by omega)) ?_
 refine twm 4 [5,6,7,17,18] rfl (by kernel_rfl) rfl rfl (trw_pure 5 [6,7,17,18] rfl (by kernel_rfl) rfl (pv_indexAddr_a runUnderlying225 sizeOf224 rfl rfl (by omega) (by omega)) ?_)
 refine trw_pure 6 [7,17,18] rfl (by kernel_rfl) rfl (pv_indexAddr_a runUnderlying224 sizeOf3 rfl rfl (by omega) (by omega)) ?_
 refine twm 8 [9,10,11,17,18] rfl (by kernel_rfl) rfl rfl (trw_pure 9 [10,11,17,18] rfl (by kernel_rfl) rfl (pv_indexAddr_a runUnderlying225 sizeOf224 rfl rfl (by omega) (by omega)) ?_)
 refine trw_pure 10 [11,17,18] rfl (by kernel_rfl) rfl (pv_indexAddr_a runUnderlying224 sizeOf3 rfl rfl (by omega) (by omega)) ?_
 refine twm 12 [13,14,15,16,17,18] rfl (by kernel_rfl) rfl rfl (trw_pure 13 [14,15,16,17,18] rfl (by kernel_rfl) rfl (pv_indexAddr_a runUnderlying225 sizeOf224 rfl rfl (by omega) (by omega)) ?_)
 refine trw_pure 14 [15,16,17,18] rfl (by kernel_rfl) rfl (pv_indexAddr_a runUnderlying224 sizeOf3 rfl rfl (by omega) (by omega)) ?_
 refine trw_read 3 [17,18] rfl (by kernel_rfl) rfl (rv_load isAgg3 rfl (by with_reducible repeat constructor) (show (tblQ.flatMap encQ4)[_]? = some (.int .i64 (rowQ i).1) from by have h9 := rowQ_get (o := 0) h0 h1 rfl; simpa using h9)) ?_
 refine trw_read 7 [17,18] rfl (by kernel_rfl) rfl (rv_load isAgg3 rfl (by with_reducible repeat constructor) (show (tblQ.flatMap encQ4)[_]? = some (.int .i64 (rowQ i).2.1) from by have h9 := rowQ_get (o := 1) h0 h1 rfl; simpa using h9)) ?_
 refine trw_read 11 [17,18] rfl (by kernel_rfl) rfl (rv_load isAgg3 rfl (by with_reducible repeat constructor) (show (tblQ.flatMap encQ4)[_]? = some (.int .i64 (rowQ i).2.2.1) from by have h9 := rowQ_get (o := 2) h0 h1 rfl; simpa using h9)) ?_
 refine trw_read 15 [16,17,18] rfl (by kernel_rfl) rfl (rv_load isAgg3 rfl (by with_reducible repeat constructor) (show (tblQ.flatMap encQ4)[_]? = some (.int .i64 (rowQ i).2.2.2) from by have h9 := rowQ_get (o := 3) h0 h1 rfl; simpa using h9)) ?_
 refine trw_pure 16 [17,18] rfl (by kernel_rfl) rfl (pv_eql rfl rfl) (trw_pure 17 [18] rfl (by kernel_rfl) rfl (pv_build (pl := [(0, 1), (1, 1), (2, 1), (3, 1)]) runUnderlying218 zeroValue218 (fun w => by simp [sizeOf3, sizeOf4]) (by dsimp only [cellsL, List.toList_toArray]) rfl rfl) ?_)
 refine trw_one 18 (by kernel_rfl) ?_
 refine trwat_eff0 rfl rfl rfl (ef_store_agg sizeOf218 rfl rfl rfl (by with_reducible repeat constructor) rfl ?_)
 refine ⟨?_, trivial⟩
 refine trw_nil (tr_keep (ks := [2]) (.cons rfl .nil) fun base => ?_)
 refine tr_ret func139 rfl .nil (by kernel_rfl) (.cell rfl (loadVar_agg isAgg218 sizeOf218 (by with_reducible repeat constructor) rfl) .nil) () rfl trivial (holds_of_picks (by with_reducible repeat constructor))
end Go.Proofs
