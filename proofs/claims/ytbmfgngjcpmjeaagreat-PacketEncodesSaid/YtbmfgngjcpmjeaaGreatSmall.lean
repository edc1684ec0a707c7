/- Contracts of functions that the law reaches, in every memory (part Small). -/
import Derived.Test.YtbmfgngjcpmjeaaGreatTree3
import Derived.Test.YtbmfgngjcpmjeaaGreatRtree4
import Derived.Test.YtbmfgngjcpmjeaaGreatPlainB
set_option linter.unusedVariables false
set_option linter.unusedSimpArgs false
set_option maxRecDepth 10000
namespace Go.Proofs
open Go.Eng Tryz
theorem p_log {n : Nat} (hn : n < 9223372036854775808) : Spec Tryz.prog 77 [.int .i64 (n : Nat)] [] (fun _ : Unit => ⟨.int .i64 (lg n : Nat), True, []⟩) := by
 refine spec_of_tr func77 rfl ntmps77 (by kernel_rfl) ?_
 refine tr_seq (tr_region (tas rfl (trl_nil (tr_seq (tr_region (tas rfl (trl_nil (tr_seq (tr_block (tr_while (α := Nat) (0) (fun k => lg n - k) (fun k => [(0, .int .i64 (n : Nat)), (3, .int .i64 (k : Nat))]) (fun k => [pure' (k ≤ lg n)]) (ks := [0,3]) (.cons rfl (.cons rfl .nil)) (holds_pure (Nat.zero_le _) (holds_of_picks (by with_reducible repeat constructor))) ?_))))))))))
 intro k base ih0
 refine Tr.pure fun hk => ?_
 have h63 := lg_le (n := n) (by omega)
 refine tr_seq (tr_seq (tr_region (tmv rfl (tmv rfl (trl_pv (pv_addI rfl rfl (by omega) (by omega)) ?_)))))
 refine trl_pv (pv_shrI rfl rfl (by omega) (by omega)) ?_
 refine trl_pv (pv_gtr rfl rfl) (trl_nil (tr_if rfl (fun h0 => ?_) (fun h0 => ?_)))
 ·have hm := lg_more.1 h0
  refine tr_skip (tr_block (tr_region (tmv rfl (trl_pv (pv_addI rfl rfl (by omega) (by omega)) ?_))))
  refine tas rfl (trl_nil (tr_keep (ks := [0,3]) (.cons rfl (.cons rfl .nil)) fun base => ?_))
  refine tr_inBlock (tr_again ih0 (k + 1) (by first | omega | (dsimp only; omega)) (.cons rfl (.cons (keep_int rfl (by omega)) .nil)) (holds_pure (by omega) (holds_of_picks (by with_reducible repeat constructor))))
 ·have hm : ¬ (k + 1 ≤ lg (n : Int)) := fun h => h0 (lg_more.2 h)
  refine tr_exit rfl (tr_seq (tr_region (tmv rfl (tas rfl (trl_nil (tr_keep (ks := [2]) (.cons rfl .nil) fun base => ?_))))))
  refine tr_ret func77 rfl .nil (by kernel_rfl) (.tmp rfl .nil) () (by have e : k = lg n := (by omega); rw [e]; rfl) trivial (holds_of_picks (by with_reducible repeat constructor))
theorem r_log {n : Nat} (hn : n < 9223372036854775808) : Spec Tryz.prog 85 [.int .i64 (n : Nat)] [] (fun _ : Unit => ⟨.int .i64 (lg n : Nat), True, []⟩) := by
 refine spec_of_tr func85 rfl ntmps85 (by kernel_rfl) ?_
 refine tr_seq (tr_region (tas rfl (trl_nil (tr_seq (tr_region (tas rfl (trl_nil (tr_seq (tr_block (tr_while (α := Nat) (0) (fun k => lg n - k) (fun k => [(0, .int .i64 (n : Nat)), (3, .int .i64 (k : Nat))]) (fun k => [pure' (k ≤ lg n)]) (ks := [0,3]) (.cons rfl (.cons rfl .nil)) (holds_pure (Nat.zero_le _) (holds_of_picks (by with_reducible repeat constructor))) ?_))))))))))
 intro k base ih0
 refine Tr.pure fun hk => ?_
 have h63 := lg_le (n := n) (by omega)
 refine tr_seq (tr_seq (tr_region (tmv rfl (tmv rfl (trl_pv (pv_addI rfl rfl (by omega) (by omega)) ?_)))))
 refine trl_pv (pv_conv (pv_convert runUnderlying3 runUnderlying104 rfl) (congrArg (Value.int .u64) (wrapu64_id (by omega) (by omega)))) ?_
 refine trl_pv (pv_shrI rfl rfl (by omega) (by omega)) ?_
 refine trl_pv (pv_gtr rfl rfl) (trl_nil (tr_if rfl (fun h0 => ?_) (fun h0 => ?_)))
 ·have hm := lg_more.1 h0
  refine tr_skip (tr_block (tr_region (tmv rfl (trl_pv (pv_addI rfl rfl (by omega) (by omega)) ?_))))
  refine tas rfl (trl_nil (tr_keep (ks := [0,3]) (.cons rfl (.cons rfl .nil)) fun base => ?_))
  refine tr_inBlock (tr_again ih0 (k + 1) (by first | omega | (dsimp only; omega)) (.cons rfl (.cons (keep_int rfl (by omega)) .nil)) (holds_pure (by omega) (holds_of_picks (by with_reducible repeat constructor))))
 ·have hm : ¬ (k + 1 ≤ lg (n : Int)) := fun h => h0 (lg_more.2 h)
  refine tr_exit rfl (tr_seq (tr_region (tmv rfl (tas rfl (trl_nil (tr_keep (ks := [2]) (.cons rfl .nil) fun base => ?_))))))
  refine tr_ret func85 rfl .nil (by kernel_rfl) (.tmp rfl .nil) () (by have e : k = lg n := (by omega); rw [e]; rfl) trivial (holds_of_picks (by with_reducible repeat constructor))
theorem p_flag {b : Bool} : Spec Tryz.prog 27 [.bool b] [] (fun _ : Unit => ⟨.int .i64 (if b then 1 else 0), True, []⟩) := by
 refine spec_of_tr func27 rfl ntmps27 (by kernel_rfl) ?_
 refine tr_seq (tr_region (tas rfl (trl_nil (tr_seq (tr_seq (tr_region (tmv rfl (trl_nil (tr_ifb rfl (fun h0 => ?_) (fun h0 => ?_))))))))))
 ·refine tr_seq (tr_region (tas rfl (trl_nil (tr_ret func27 rfl .nil (by kernel_rfl) (.tmp rfl .nil) () (by rw [h0]; rfl) trivial (holds_of_picks (by with_reducible repeat constructor))))))
 ·refine tr_skip (tr_seq (tr_region (tas rfl (trl_nil (tr_ret func27 rfl .nil (by kernel_rfl) (.tmp rfl .nil) () (by rw [h0]; rfl) trivial (holds_of_picks (by with_reducible repeat constructor)))))))
theorem p_tell {r : Nat} {bs : List Bool} {n : Int} (hn0 : 0 ≤ n) (hn : n < 1000) (hl : bs.length < 900000000000) : Spec Tryz.prog 74 [.pointer (some ⟨r, 0, none⟩), .int .i64 n] [WP r bs]
    (fun _ : Unit => ⟨.tuple #[], True, [WP r (bs ++ tellBits n)]⟩) := by
 refine spec_of_tr func74 rfl ntmps74 (by kernel_rfl) ?_
 refine tr_block (tr_seq (tr_region (tmv rfl (trl_pv (pv_lss rfl rfl) (tas rfl (trl_nil (tr_if rfl (fun h0 => ?_) (fun h0 => ?_))))))))
 ·refine tr_region (tmv rfl (trl_eff (ef_call rfl rfl call71 (wp_bit (bs := bs) (by omega)) (by with_reducible repeat constructor) fun x14 hx14 => ?_)))
  dsimp only [List.cons_append, List.nil_append]
  refine trl_nil (tr_keep (ks := []) (.nil) fun base => ?_)
  refine tr_inBlock ?_
  rw [show tellBits n = [decide ((0 : Int) % 2 = 1)] from if_pos h0]
  refine tr_end func74 rfl .nil (by kernel_rfl) .nil () rfl trivial (holds_of_picks (by with_reducible repeat constructor))
 ·refine tr_seq (tr_region (tmv rfl (trl_pv (pv_lss rfl rfl) (tas rfl (trl_nil (tr_if rfl (fun h1 => ?_) (fun h1 => ?_)))))))
  ·refine tr_region (tmv rfl (trl_eff (ef_call rfl rfl call26 (wp_bits (bs := bs) (by omega)) (by with_reducible repeat constructor) fun x19 hx19 => ?_)))
   dsimp only [List.cons_append, List.nil_append]
   refine trl_nil (tr_keep (ks := []) (.nil) fun base => ?_)
   refine tr_inBlock ?_
   rw [show tellBits n = bitsOf 2 2 from (if_neg h0).trans (if_pos h1)]
   refine tr_end func74 rfl .nil (by kernel_rfl) .nil () rfl trivial (holds_of_picks (by with_reducible repeat constructor))
  ·refine tr_seq (tr_region (tmv rfl (trl_pv (pv_lss rfl rfl) (tas rfl (trl_nil (tr_keep (ks := [0,1,20]) (.cons rfl (.cons rfl (.cons rfl .nil))) fun base => ?_))))))
   refine tr_if rfl (fun h2 => ?_) (fun h2 => ?_)
   ·refine tr_seq (tr_region (tmv rfl (trl_eff (ef_call rfl rfl call26 (wp_bits (bs := bs) (by omega)) (by with_reducible repeat constructor) fun x24 hx24 => ?_))))
    dsimp only [List.cons_append, List.nil_append]
    refine trl_nil (tr_region (tmv rfl (tmv rfl (trl_pv (pv_subI rfl rfl (by omega) (by omega)) ?_))))
    refine trl_eff (ef_call rfl rfl call26 (wp_bits (bs := bs ++ bitsOf 3 2) (by simp [bitsOf]; omega)) (by with_reducible repeat constructor) fun x28 hx28 => ?_)
    dsimp only [List.cons_append, List.nil_append]
    refine trl_nil (tr_keep (ks := []) (.nil) fun base => ?_)
    refine tr_inBlock ?_
    rw [show tellBits n = bitsOf 3 2 ++ bitsOf (n - 3) 2 from (if_neg h0).trans ((if_neg h1).trans (if_pos h2)), ← List.append_assoc]
    refine tr_end func74 rfl .nil (by kernel_rfl) .nil () rfl trivial (holds_of_picks (by with_reducible repeat constructor))
   ·refine tr_seq (tr_region (tmv rfl (trl_pv (pv_lss rfl rfl) (tas rfl (trl_nil (tr_if rfl (fun h3 => ?_) (fun h3 => ?_)))))))
    ·refine tr_seq (tr_region (tmv rfl (trl_eff (ef_call rfl rfl call26 (wp_bits (bs := bs) (by omega)) (by with_reducible repeat constructor) fun x33 hx33 => ?_))))
     dsimp only [List.cons_append, List.nil_append]
     refine trl_nil (tr_region (tmv rfl (tmv rfl (trl_pv (pv_subI rfl rfl (by omega) (by omega)) ?_))))
     refine trl_eff (ef_call rfl rfl call26 (wp_bits (bs := bs ++ bitsOf 15 4) (by simp [bitsOf]; omega)) (by with_reducible repeat constructor) fun x37 hx37 => ?_)
     dsimp only [List.cons_append, List.nil_append]
     refine trl_nil (tr_keep (ks := []) (.nil) fun base => ?_)
     refine tr_inBlock ?_
     rw [show tellBits n = bitsOf 15 4 ++ bitsOf (n - 6) 5 from (if_neg h0).trans ((if_neg h1).trans ((if_neg h2).trans (if_pos h3))), ← List.append_assoc]
     refine tr_end func74 rfl .nil (by kernel_rfl) .nil () rfl trivial (holds_of_picks (by with_reducible repeat constructor))
    ·refine tr_seq (tr_region (tmv rfl (trl_eff (ef_call rfl rfl call26 (wp_bits (bs := bs) (by omega)) (by with_reducible repeat constructor) fun x5 hx5 => ?_))))
     dsimp only [List.cons_append, List.nil_append]
     refine trl_nil (tr_region (tmv rfl (tmv rfl (trl_pv (pv_subI rfl rfl (by omega) (by omega)) ?_))))
     refine trl_eff (ef_call rfl rfl call26 (wp_bits (bs := bs ++ bitsOf 511 9) (by simp [bitsOf]; omega)) (by with_reducible repeat constructor) fun x9 hx9 => ?_)
     dsimp only [List.cons_append, List.nil_append]
     refine trl_nil (tr_keep (ks := []) (.nil) fun base => ?_)
     refine tr_inBlock ?_
     rw [show tellBits n = bitsOf 511 9 ++ bitsOf (n - 37) 7 from (if_neg h0).trans ((if_neg h1).trans ((if_neg h2).trans (if_neg h3))), ← List.append_assoc]
     refine tr_end func74 rfl .nil (by kernel_rfl) .nil () rfl trivial (holds_of_picks (by with_reducible repeat constructor))
theorem r_count {r : Nat} {bs : List Bool} {n : Int} (hn0 : 1 ≤ n) (hn : n < 1000) (hl : bs.length < 900000000000) : Spec Tryz.prog 82 [.pointer (some ⟨r, 0, none⟩), .int .i64 n] [WR r bs]
    (fun _ : Unit => ⟨.tuple #[], True, [WR r (bs ++ tellBits n)]⟩) := by
 refine spec_of_tr func82 rfl ntmps82 (by kernel_rfl) ?_
 refine tr_block (tr_seq (tr_region (tmv rfl (trl_pv (pv_eql rfl rfl) (tas rfl (trl_nil (tr_if rfl (fun h0 => ?_) (fun h0 => ?_))))))))
 ·refine tr_region (tmv rfl (trl_eff (ef_call rfl rfl call86 (wr_bits (bs := bs) (by omega)) (by with_reducible repeat constructor) fun x14 hx14 => ?_)))
  dsimp only [List.cons_append, List.nil_append]
  refine trl_nil (tr_keep (ks := []) (.nil) fun base => ?_)
  refine tr_inBlock ?_
  rw [show tellBits n = bitsOf 0 1 from if_pos (by omega)]
  refine tr_end func82 rfl .nil (by kernel_rfl) .nil () rfl trivial (holds_of_picks (by with_reducible repeat constructor))
 ·refine tr_seq (tr_region (tmv rfl (trl_pv (pv_eql rfl rfl) (tas rfl (trl_nil (tr_if rfl (fun h1 => ?_) (fun h1 => ?_)))))))
  ·refine tr_region (tmv rfl (trl_eff (ef_call rfl rfl call86 (wr_bits (bs := bs) (by omega)) (by with_reducible repeat constructor) fun x19 hx19 => ?_)))
   dsimp only [List.cons_append, List.nil_append]
   refine trl_nil (tr_keep (ks := []) (.nil) fun base => ?_)
   refine tr_inBlock ?_
   rw [show tellBits n = bitsOf 2 2 from (if_neg (by omega)).trans (if_pos (by omega))]
   refine tr_end func82 rfl .nil (by kernel_rfl) .nil () rfl trivial (holds_of_picks (by with_reducible repeat constructor))
  ·refine tr_seq (tr_region (tmv rfl (trl_pv (pv_leq rfl rfl) (tas rfl (trl_nil (tr_keep (ks := [0,1,20]) (.cons rfl (.cons rfl (.cons rfl .nil))) fun base => ?_))))))
   refine tr_if rfl (fun h2 => ?_) (fun h2 => ?_)
   ·refine tr_region (tmv rfl (tmv rfl (trl_pv (pv_addI rfl rfl (by omega) (by omega)) ?_)))
    refine trl_pv (pv_subI rfl rfl (by omega) (by omega)) ?_
    refine trl_eff (ef_call rfl rfl call86 (wr_bits (bs := bs) (by omega)) (by with_reducible repeat constructor) fun x27 hx27 => ?_)
    dsimp only [List.cons_append, List.nil_append]
    refine trl_nil (tr_keep (ks := []) (.nil) fun base => ?_)
    refine tr_inBlock ?_
    rw [show tellBits n = bitsOf (12 + n - 3) 4 from (if_neg (by omega)).trans ((if_neg (by omega)).trans ((if_pos (by omega)).trans (tell_small (by omega) h2).symm))]
    refine tr_end func82 rfl .nil (by kernel_rfl) .nil () rfl trivial (holds_of_picks (by with_reducible repeat constructor))
   ·refine tr_seq (tr_region (tmv rfl (trl_pv (pv_leq rfl rfl) (tas rfl (trl_nil (tr_if rfl (fun h3 => ?_) (fun h3 => ?_)))))))
    ·refine tr_seq (tr_region (tmv rfl (trl_eff (ef_call rfl rfl call86 (wr_bits (bs := bs) (by omega)) (by with_reducible repeat constructor) fun x32 hx32 => ?_))))
     dsimp only [List.cons_append, List.nil_append]
     refine trl_nil (tr_region (tmv rfl (tmv rfl (trl_pv (pv_subI rfl rfl (by omega) (by omega)) ?_))))
     refine trl_eff (ef_call rfl rfl call86 (wr_bits (bs := bs ++ bitsOf 15 4) (by simp [bitsOf]; omega)) (by with_reducible repeat constructor) fun x36 hx36 => ?_)
     dsimp only [List.cons_append, List.nil_append]
     refine trl_nil (tr_keep (ks := []) (.nil) fun base => ?_)
     refine tr_inBlock ?_
     rw [show tellBits n = bitsOf 15 4 ++ bitsOf (n - 6) 5 from (if_neg (by omega)).trans ((if_neg (by omega)).trans ((if_neg (by omega)).trans (if_pos (by omega)))), ← List.append_assoc]
     refine tr_end func82 rfl .nil (by kernel_rfl) .nil () rfl trivial (holds_of_picks (by with_reducible repeat constructor))
    ·refine tr_seq (tr_region (tmv rfl (trl_eff (ef_call rfl rfl call86 (wr_bits (bs := bs) (by omega)) (by with_reducible repeat constructor) fun x5 hx5 => ?_))))
     dsimp only [List.cons_append, List.nil_append]
     refine trl_nil (tr_region (tmv rfl (tmv rfl (trl_pv (pv_subI rfl rfl (by omega) (by omega)) ?_))))
     refine trl_eff (ef_call rfl rfl call86 (wr_bits (bs := bs ++ bitsOf 511 9) (by simp [bitsOf]; omega)) (by with_reducible repeat constructor) fun x9 hx9 => ?_)
     dsimp only [List.cons_append, List.nil_append]
     refine trl_nil (tr_keep (ks := []) (.nil) fun base => ?_)
     refine tr_inBlock ?_
     rw [show tellBits n = bitsOf 511 9 ++ bitsOf (n - 37) 7 from (if_neg (by omega)).trans ((if_neg (by omega)).trans ((if_neg (by omega)).trans (if_neg (by omega)))), ← List.append_assoc]
     refine tr_end func82 rfl .nil (by kernel_rfl) .nil () rfl trivial (holds_of_picks (by with_reducible repeat constructor))
theorem p_passes {total count l : Nat} (ht : total ≤ 100) (hc : 1 ≤ count) (hc2 : count ≤ 100) (hl : l ≤ 1000) : Spec Tryz.prog 70 [.int .i64 (total : Nat), .int .i64 (count : Nat), .int .i64 (l : Nat)] []
    (fun _ : Unit => ⟨.int .i64 (passesF total count l : Nat), True, []⟩) := by
 refine spec_of_tr func70 rfl ntmps70 (by kernel_rfl) ?_
 refine tr_seq (tr_region (tas rfl (trl_nil (tr_seq (tr_region (tmv rfl (trl_pv (pv_conv (pv_maxI rfl rfl) (congrArg (Value.int .i64) (show max (total : Int) 0 = ((total : Nat) : Int) from by omega))) (trl_pv (pv_conv (pv_minI rfl rfl) (congrArg (Value.int .i64) (show min (total : Int) 100 = ((total : Nat) : Int) from by omega))) (tas rfl (trl_nil (tr_seq (tr_block (tr_seq ?_)))))))))))))
 refine tr_region (tmv rfl (trl_pv (pv_lss rfl rfl) (tmv rfl (trl_split 2 rfl (fun g13 => ?_) (fun g13 => ?_)))))
 ·refine trl_not rfl (decide_eq_true g13) ?_
  refine trl_not rfl (decide_eq_true g13) ?_
  refine trl_pv (pv_pick_t rfl (decide_eq_true g13) rfl) (tas rfl (trl_nil (tr_keep (ks := [0,1,2,10]) (.cons rfl (.cons rfl (.cons rfl (.cons rfl .nil)))) fun base => ?_)))
  refine tr_then rfl rfl ?_
  refine tr_seq (tr_region (tas rfl (trl_nil (tr_ret func70 rfl .nil (by kernel_rfl) (.tmp rfl .nil) () (by rw [show passesF total count l = 0 from if_pos (by omega)]; rfl) trivial (holds_of_picks (by with_reducible repeat constructor))))))
 ·refine trl_pvg rfl (decide_eq_false g13) (pv_move rfl) (trl_pvg rfl (decide_eq_false g13) (pv_lss rfl rfl) (trl_pv (pv_pick_f rfl (decide_eq_false g13) rfl) (tas rfl (trl_nil (tr_keep (ks := [0,1,2,10]) (.cons rfl (.cons rfl (.cons rfl (.cons rfl .nil)))) fun base => ?_)))))
  refine tr_else rfl (decide_eq_false (by omega)) ?_
  refine tr_seq (tr_region (tmv rfl (tmv rfl (trl_pv (pv_gtr rfl rfl) (tas rfl (trl_nil (tr_if rfl (fun h1 => ?_) (fun h1 => ?_))))))))
  ·refine tr_seq (tr_region (tmv rfl (tas rfl (trl_nil (tr_keep (ks := [6]) (.cons rfl .nil) fun base => ?_)))))
   refine tr_ret func70 rfl .nil (by kernel_rfl) (.tmp rfl .nil) () (by rw [show passesF total count l = total from (if_neg (by omega)).trans (if_pos (by omega))]; rfl) trivial (holds_of_picks (by with_reducible repeat constructor))
  ·refine tr_skip (tr_inBlock (tr_seq (tr_region (tmv rfl (tmv rfl ?_)))))
   have hm1 : total * l ≤ 100 * 100 := Nat.mul_le_mul ht (show l ≤ 100 by omega)
   have hm0 := Nat.zero_le (total * l)
   refine trl_pv (pv_conv (pv_minI rfl rfl) (congrArg (Value.int .i64) (show min (l : Int) 100 = ((l : Nat) : Int) from by omega))) (trl_pv (pv_conv (pv_mulI rfl rfl (by omega) (by omega)) (congrArg (Value.int .i64) (show (total : Int) * (l : Int) = ((total * l : Nat) : Int) from by simp))) ?_)
   refine tmv rfl (trl_pv (pv_conv (pv_minI rfl rfl) (congrArg (Value.int .i64) (show min (count : Int) 100 = ((count : Nat) : Int) from by omega))) (trl_pv (pv_conv (pv_quoI rfl rfl (by omega) (by omega) (by omega)) (congrArg (Value.int .i64) (show ((total * l : Nat) : Int) / (count : Int) = ((total * l / count : Nat) : Int) from by simp))) ?_))
   refine tas rfl (trl_nil (tr_keep (ks := [6]) (.cons rfl .nil) fun base => ?_))
   refine tr_ret func70 rfl .nil (by kernel_rfl) (.tmp rfl .nil) () (by rw [show passesF total count l = total * l / count from (if_neg (by omega)).trans (if_neg (by omega))]; rfl) trivial (holds_of_picks (by with_reducible repeat constructor))
theorem r_passes {total count l : Nat} (ht : total ≤ 100) (hc : 1 ≤ count) (hc2 : count ≤ 100) (hl : l ≤ 1000) : Spec Tryz.prog 78 [.int .i64 (total : Nat), .int .i64 (count : Nat), .int .i64 (l : Nat)] []
    (fun _ : Unit => ⟨.int .i64 (passesF total count l : Nat), True, []⟩) := by
 refine spec_of_tr func78 rfl ntmps78 (by kernel_rfl) ?_
 refine tr_seq (tr_region (tas rfl (trl_nil (tr_seq (tr_seq (tr_region (tmv rfl (trl_pv (pv_lss rfl rfl) (trl_nil (tr_if rfl (fun h0 => ?_) (fun h0 => ?_)))))))))))
 ·refine tr_seq (tr_region (tas rfl (trl_nil (tr_ret func78 rfl .nil (by kernel_rfl) (.tmp rfl .nil) () (by rw [show passesF total count l = 0 from if_pos (by omega)]; rfl) trivial (holds_of_picks (by with_reducible repeat constructor))))))
 ·refine tr_skip (tr_seq (tr_seq (tr_region (tmv rfl (tmv rfl (trl_pv (pv_gtr rfl rfl) (trl_nil (tr_if rfl (fun h1 => ?_) (fun h1 => ?_)))))))))
  ·refine tr_seq (tr_region (tmv rfl (tas rfl (trl_nil (tr_keep (ks := [6]) (.cons rfl .nil) fun base => ?_)))))
   refine tr_ret func78 rfl .nil (by kernel_rfl) (.tmp rfl .nil) () (by rw [show passesF total count l = total from (if_neg (by omega)).trans (if_pos (by omega))]; rfl) trivial (holds_of_picks (by with_reducible repeat constructor))
  ·refine tr_skip (tr_seq ?_)
   have hm1 : total * l ≤ 100 * 100 := Nat.mul_le_mul ht (show l ≤ 100 by omega)
   have hm0 := Nat.zero_le (total * l)
   refine tr_region (tmv rfl (tmv rfl (trl_pv (pv_conv (pv_mulI rfl rfl (by omega) (by omega)) (congrArg (Value.int .i64) (show (total : Int) * (l : Int) = ((total * l : Nat) : Int) from by simp))) ?_)))
   refine tmv rfl (trl_pv (pv_conv (pv_quoI rfl rfl (by omega) (by omega) (by omega)) (congrArg (Value.int .i64) (show ((total * l : Nat) : Int) / (count : Int) = ((total * l / count : Nat) : Int) from by simp))) ?_)
   refine tas rfl (trl_nil (tr_keep (ks := [6]) (.cons rfl .nil) fun base => ?_))
   refine tr_ret func78 rfl .nil (by kernel_rfl) (.tmp rfl .nil) () (by rw [show passesF total count l = total * l / count from (if_neg (by omega)).trans (if_neg (by omega))]; rfl) trivial (holds_of_picks (by with_reducible repeat constructor))
end Go.Proofs
