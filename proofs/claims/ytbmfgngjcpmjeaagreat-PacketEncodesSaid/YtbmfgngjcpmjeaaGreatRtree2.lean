/- Contracts of functions that the law reaches, in every memory (part Rtree2). -/
import Derived.Test.YtbmfgngjcpmjeaaGreatRtree
set_option linter.unusedVariables false
set_option linter.unusedSimpArgs false
set_option maxRecDepth 10000
namespace Go.Proofs
open Go.Eng Tryz
theorem rtree_set {r : Nat} {sh : List (Nat × Nat)} {T : List Nd} {fresh : Bool} {k : Nat} {n : Int} {nd : Nd} (hk : k < leavesOf sh) (hnd : T[k]? = some nd) (hsz : total sh ≤ 10000000) :
    Spec Tryz.prog 79 [.pointer (some ⟨r, 0, none⟩), .int .i64 (k : Nat), .int .i64 n] [RT r sh T fresh]
    (fun _ : Unit => ⟨.tuple #[], True, [RT r sh (T.set k ⟨n, nd.low, nd.said⟩) false]⟩) := by
 refine spec_of_tr func79 rfl ntmps79 (by kernel_rfl) ?_
 refine Tr.unfold rt_open .here fun v ⟨ho, hT⟩ => ?_
 dsimp only [List.cons_append, List.nil_append]
 have hul := ups_length sh 0
 have hll := leaves_le sh
 refine tr_seq (tr_seq (tr_region (tmv rfl (trl_pv (pv_lss rfl rfl) (tmv rfl (trl_pvg rfl (decide_eq_false (by omega)) (pv_move rfl) ?_))))))
 refine trl_pvg rfl (decide_eq_false (by omega)) (pv_move rfl) ?_
 refine trl_pvg rfl (decide_eq_false (by omega)) (pv_nilCheck rfl) ?_
 refine trl_pvg rfl (decide_eq_false (by omega)) (pv_fieldAddr runUnderlying159 rfl sizeOf3 rfl rfl) ?_
 refine trl_valg rfl (decide_eq_false (by omega)) (rv_load isAgg3 rfl (by with_reducible repeat constructor) rfl) ?_
 refine trl_pvg rfl (decide_eq_false (by omega)) (pv_geq rfl rfl) ?_
 refine trl_pv (pv_pick_f rfl (decide_eq_false (by omega)) rfl) ?_
 refine trl_nil (tr_keep (ks := [0,1,2,15]) (.cons rfl (.cons rfl (.cons rfl (.cons rfl .nil)))) fun base => ?_)
 refine tr_else rfl (decide_eq_false (by omega)) ?_
 refine tr_skip (tr_seq (tr_region (tmv rfl (tnc rfl (trl_pv (pv_fieldAddr runUnderlying159 rfl sizeOf157 rfl rfl) (trl_val (rv_load isAgg157 rfl (by with_reducible repeat constructor) rfl) ?_))))))
 refine tmv rfl (tmv rfl (trl_val (rv_indexAddr_sl runUnderlying157 sizeOf162 rfl rfl (by with_reducible repeat constructor) (by omega) (by omega)) ?_))
 refine trl_pv (pv_fieldAddr runUnderlying162 rfl sizeOf3 rfl rfl) ?_
 obtain ⟨u, hu⟩ := get_some (l := ups sh 0) (i := k) (by omega)
 refine trl_eff0 (ef_store_sl sizeOf3 rfl rfl (by first | rfl | assumption) (by with_reducible repeat constructor) (rc_lt (by omega) (by omega) (by decide)) (rc_set (i := k) (nd' := ⟨n, nd.low, nd.said⟩) hnd hu (by decide) rfl) ?_)
 refine trl_nil (tr_keep (ks := [0]) (.cons rfl .nil) fun base => ?_)
 refine tr_region (tmv rfl (tnc rfl (trl_pv (pv_fieldAddr runUnderlying159 rfl sizeOf4 rfl rfl) (trl_eff0 (ef_store sizeOf4 rfl rfl (by first | rfl | assumption) (by with_reducible repeat constructor) rfl ?_)))))
 refine trl_nil ?_
 refine Tr.fold (rt_fold (T := T.set k ⟨n, nd.low, nd.said⟩) (fresh := false) (v := v) (n := total sh) (cells := rcells (T.set k ⟨n, nd.low, nd.said⟩) (ups sh 0)) (lv := (leavesOf sh : Nat)) ho (by simp [hT]) rfl rfl rfl) (by with_reducible repeat constructor) ?_
 refine tr_end func79 rfl .nil (by kernel_rfl) .nil () rfl trivial (holds_of_picks (by with_reducible repeat constructor))
theorem rtree_fill1 {r : Nat} {sh : List (Nat × Nat)} {T : List Nd} :
    Spec Tryz.prog 80 [.pointer (some ⟨r, 0, none⟩)] [RT r sh T true] (fun _ : Unit => ⟨.tuple #[], True, [RT r sh T true]⟩) := by
 refine spec_of_tr func80 rfl ntmps80 (by kernel_rfl) ?_
 refine Tr.unfold rt_open .here fun v ⟨ho, hT⟩ => ?_
 dsimp only [List.cons_append, List.nil_append]
 have hul := ups_length sh 0
 have hll := leaves_le sh
 refine tr_seq (tr_seq (tr_region (tmv rfl (tnc rfl (trl_pv (pv_fieldAddr runUnderlying159 rfl sizeOf4 rfl rfl) (trl_val (rv_load isAgg4 rfl (by with_reducible repeat constructor) rfl) ?_))))))
 refine trl_nil (tr_then rfl rfl ?_)
 refine Tr.fold (rt_fold (T := T) (fresh := true) (v := v) (n := total sh) (cells := rcells (T) (ups sh 0)) (lv := (leavesOf sh : Nat)) ho (hT) rfl rfl rfl) (by with_reducible repeat constructor) ?_
 refine tr_ret func80 rfl .nil (by kernel_rfl) .nil () rfl trivial (holds_of_picks (by with_reducible repeat constructor))
theorem rtree_fill2 {r : Nat} {sh : List (Nat × Nat)} {nums z : List Int} (hH : Halves sh) (hE : Ends1 sh) (hn : nums.length = leavesOf sh) (hz : nums.length + z.length = total sh) (hbig : ∀ x ∈ nums, x ≤ big) (hsz : total sh ≤ 10000000) :
    Spec Tryz.prog 80 [.pointer (some ⟨r, 0, none⟩)] [RT r sh (mk0 (nums ++ z)) false] (fun _ : Unit => ⟨.tuple #[], True, [RT r sh (mk0 (mins sh nums)) true]⟩) := by
 refine spec_of_tr func80 rfl ntmps80 (by kernel_rfl) ?_
 refine Tr.unfold rt_open .here fun v ⟨ho, hT⟩ => ?_
 dsimp only [List.cons_append, List.nil_append]
 have hul := ups_length sh 0
 have hll := leaves_le sh
 have hl : ∀ s, sh.head? = some s → nums.length = s.1 * s.2 := by intro s hs; rw [hn]; unfold leavesOf; rw [hs]
 have h0 : sh = [] → nums = [] := by intro e; subst e; exact List.eq_nil_of_length_eq_zero hn
 refine tr_seq (tr_seq (tr_region (tmv rfl (tnc rfl (trl_pv (pv_fieldAddr runUnderlying159 rfl sizeOf4 rfl rfl) (trl_val (rv_load isAgg4 rfl (by with_reducible repeat constructor) rfl) ?_))))))
 refine trl_nil (tr_else rfl rfl ?_)
 refine tr_skip (tr_seq (tr_region (tmv rfl (tnc rfl (trl_pv (pv_fieldAddr runUnderlying159 rfl sizeOf4 rfl rfl) (trl_eff0 (ef_store sizeOf4 rfl rfl (by first | rfl | assumption) (by with_reducible repeat constructor) rfl ?_)))))))
 refine trl_nil (tr_keep (ks := [0]) (.cons rfl .nil) fun base => ?_)
 refine tr_seq (tr_seq (tr_region (tmv rfl (tnc rfl (trl_pv (pv_fieldAddr runUnderlying159 rfl sizeOf3 rfl rfl) (trl_val (rv_load isAgg3 rfl (by with_reducible repeat constructor) rfl) ?_))))))
 refine tas rfl (trl_nil (tr_block (tr_while (α := Nat) (nums.length) (fun i => total sh - i) (fun i => [(0, .pointer (some ⟨r, 0, none⟩)), (2, .int .i64 (i : Nat))]) (fun i => [pure' (nums.length ≤ i ∧ i ≤ total sh), pt r 159 [v, .int .i64 (leavesOf sh : Nat), .bool true], Sl 162 4 (total sh) v (rcells (mk0 (nums ++ List.replicate (i - nums.length) big ++ z.drop (i - nums.length))) (ups sh 0))]) (ks := [0,2]) (.cons rfl (.cons (keep_int rfl (by rw [hn])) .nil)) (by simp only [Nat.sub_self, List.replicate_zero, List.append_nil, List.drop_zero]; exact holds_pure ⟨Nat.le_refl _, by omega⟩ (holds_of_picks (by with_reducible repeat constructor))) ?_)))
 intro i base ih0
 refine Tr.pure fun ⟨hi0, hi1⟩ => ?_
 refine tr_seq (tr_seq (tr_region (tmv rfl (tmv rfl (tnc rfl (trl_pv (pv_fieldAddr runUnderlying159 rfl sizeOf157 rfl rfl) (trl_val (rv_load isAgg157 rfl (by with_reducible repeat constructor) rfl) ?_)))))))
 refine trl_val (rv_len_sl runUnderlying157 rfl (by with_reducible repeat constructor)) ?_
 refine trl_pv (pv_lss rfl rfl) (trl_nil (tr_if rfl (fun h1 => ?_) (fun h1 => ?_)))
 ·refine tr_skip (tr_seq (tr_block (tr_region (tmv rfl (tnc rfl (trl_pv (pv_fieldAddr runUnderlying159 rfl sizeOf157 rfl rfl) (trl_val (rv_load isAgg157 rfl (by with_reducible repeat constructor) rfl) ?_)))))))
  refine tmv rfl (trl_val (rv_indexAddr_sl runUnderlying157 sizeOf162 rfl rfl (by with_reducible repeat constructor) (by omega) (by omega)) ?_)
  refine trl_pv (pv_fieldAddr runUnderlying162 rfl sizeOf3 rfl rfl) ?_
  obtain ⟨u, hu⟩ := get_some (l := ups sh 0) (i := i) (by omega)
  obtain ⟨a, ha⟩ := get_some (l := nums ++ List.replicate (i - nums.length) big ++ z.drop (i - nums.length)) (i := i) (by simp; omega)
  refine trl_eff0 (ef_store_sl sizeOf3 rfl rfl (by first | rfl | assumption) (by with_reducible repeat constructor) (rc_lt (by rw [mk0_length]; simp; omega) (by rw [mk0_length]; simp; omega) (by decide)) (rc_set (i := i) (nd' := ⟨big, 0, false⟩) (mk0_get1 ha) hu (by decide) rfl) ?_)
  refine trl_nil ?_
  rw [mk0_set, fill_first hi0 (by omega)]
  refine tr_keep (ks := [0,2]) (.cons rfl (.cons rfl .nil)) fun base => ?_
  refine tr_inBlock (tr_region (tmv rfl (trl_pv (pv_addI rfl rfl (by omega) (by omega)) ?_)))
  refine tas rfl (trl_nil (tr_again ih0 (i + 1) (by first | omega | (dsimp only; omega)) (.cons rfl (.cons (keep_int rfl (by omega)) .nil)) (holds_pure ⟨by omega, by omega⟩ (holds_of_picks (by with_reducible repeat constructor)))))
 ·refine tr_exit rfl (tr_seq ?_)
  have hie : i = total sh := by omega
  subst hie
  rw [List.drop_of_length_le (by omega), List.append_nil]
  refine tr_region (tas rfl (trl_nil (tr_keep (ks := [0,3]) (.cons rfl (.cons rfl .nil)) fun base => ?_)))
  refine tr_block (tr_while (α := Nat) (0) (fun i => total sh - i) (fun i => [(0, .pointer (some ⟨r, 0, none⟩)), (3, .int .i64 (i : Nat))]) (fun i => [pure' (i ≤ total sh), pt r 159 [v, .int .i64 (leavesOf sh : Nat), .bool true], Sl 162 4 (total sh) v (rcells (mk0 (fillAll (ups sh 0) (nums ++ List.replicate (total sh - nums.length) big) i)) (ups sh 0))]) (ks := [0,3]) (.cons rfl (.cons rfl .nil)) (holds_eq (As' := [pure' _, pt r 159 [v, .int .i64 (leavesOf sh : Nat), .bool true], Sl 162 4 (total sh) v (rcells (mk0 (nums ++ List.replicate (total sh - nums.length) big)) (ups sh 0))]) (holds_pure (Nat.zero_le _) (holds_of_picks (by with_reducible repeat constructor))) rfl) ?_)
  intro i base ih1
  refine Tr.pure fun hi => ?_
  have hfl := fillAll_length (ups sh 0) (nums ++ List.replicate (total sh - nums.length) big) i
  rw [List.length_append, List.length_replicate] at hfl
  refine tr_seq (tr_seq (tr_region (tmv rfl (tmv rfl (tnc rfl (trl_pv (pv_fieldAddr runUnderlying159 rfl sizeOf157 rfl rfl) (trl_val (rv_load isAgg157 rfl (by with_reducible repeat constructor) rfl) ?_)))))))
  refine trl_val (rv_len_sl runUnderlying157 rfl (by with_reducible repeat constructor)) ?_
  refine trl_pv (pv_lss rfl rfl) (trl_nil (tr_if rfl (fun h2 => ?_) (fun h2 => ?_)))
  ·refine tr_skip (tr_seq (tr_block (tr_seq ?_)))
   obtain ⟨u, hu⟩ := get_some (l := ups sh 0) (i := i) (by omega)
   obtain ⟨a, ha⟩ := get_some (l := fillAll (ups sh 0) (nums ++ List.replicate (total sh - nums.length) big) i) (i := i) (by omega)
   have ha0 := mk0_get1 ha
   refine tr_region (tmv rfl (tnc rfl (trl_pv (pv_fieldAddr runUnderlying159 rfl sizeOf157 rfl rfl) (trl_val (rv_load isAgg157 rfl (by with_reducible repeat constructor) rfl) ?_))))
   refine tmv rfl (trl_val (rv_indexAddr_sl runUnderlying157 sizeOf162 rfl rfl (by with_reducible repeat constructor) (by omega) (by omega)) ?_)
   refine trl_pv (pv_fieldAddr runUnderlying162 rfl sizeOf3 rfl rfl) (trl_val (rv_load_sl isAgg3 rfl (by with_reducible repeat constructor) (rc_get ha0 hu rfl)) ?_)
   refine tas rfl (trl_nil (tr_keep (ks := [0,3,4]) (.cons rfl (.cons rfl (.cons rfl .nil))) fun base => ?_))
   refine tr_seq (tr_region (tmv rfl (trl_pv (pv_geq rfl rfl) (trl_nil (tr_if rfl (fun h3 => ?_) (fun h3 => ?_))))))
   ·obtain ⟨j, rfl⟩ := Int.eq_ofNat_of_zero_le (show 0 ≤ u by omega)
    have hj := ups_lt hH hE hu (by omega)
    obtain ⟨b, hb⟩ := get_some (l := fillAll (ups sh 0) (nums ++ List.replicate (total sh - nums.length) big) i) (i := j) (by omega)
    have hb0 := mk0_get1 hb
    obtain ⟨u2, hu2⟩ := get_some (l := ups sh 0) (i := j) (by omega)
    refine tr_draww (rem := [0,1,2,3,4,5,6,7,8,9,10,11,12,13,14,15,16,17,18,19,20,21,22,23,24]) (by kernel_rfl) (by kernel_rfl) rfl ?_
    refine twm 0 [1,2,3,22,23,24] rfl (by kernel_rfl) rfl rfl (twn 1 [2,3,22,23,24] rfl (by kernel_rfl) rfl rfl (trw_pure 2 [3,22,23,24] rfl (by kernel_rfl) rfl (pv_fieldAddr runUnderlying159 rfl sizeOf157 rfl rfl) (twm 4 [22,23,24] rfl (by kernel_rfl) rfl rfl (twm 5 [6,7,8,10,11,12,21,22,23,24] rfl (by kernel_rfl) rfl rfl (twn 6 [7,8,10,11,12,21,22,23,24] rfl (by kernel_rfl) rfl rfl (trw_pure 7 [8,10,11,12,21,22,23,24] rfl (by kernel_rfl) rfl (pv_fieldAddr runUnderlying159 rfl sizeOf157 rfl rfl) (twm 9 [10,11,12,21,22,23,24] rfl (by kernel_rfl) rfl rfl (twm 13 [14,15,16,18,19,20,21,22,23,24] rfl (by kernel_rfl) rfl rfl (twn 14 [15,16,18,19,20,21,22,23,24] rfl (by kernel_rfl) rfl rfl (trw_pure 15 [16,18,19,20,21,22,23,24] rfl (by kernel_rfl) rfl (pv_fieldAddr runUnderlying159 rfl sizeOf157 rfl rfl) (twm 17 [18,19,20,21,22,23,24] rfl (by kernel_rfl) rfl rfl (trw_read 3 [22,23,24] rfl (by kernel_rfl) rfl (rv_load isAgg157 rfl (by with_reducible repeat constructor) rfl) ?_))))))))))))
    refine trw_read 8 [10,11,12,21,22,23,24] rfl (by kernel_rfl) rfl (rv_load isAgg157 rfl (by with_reducible repeat constructor) rfl) ?_
    refine trw_read 10 [11,12,21,22,23,24] rfl (by kernel_rfl) rfl (rv_indexAddr_sl runUnderlying157 sizeOf162 rfl rfl (by with_reducible repeat constructor) (by omega) (by omega)) ?_
    refine trw_pure 11 [12,21,22,23,24] rfl (by kernel_rfl) rfl (pv_fieldAddr runUnderlying162 rfl sizeOf3 rfl rfl) (trw_read 12 [21,22,23,24] rfl (by kernel_rfl) rfl (rv_load_sl isAgg3 rfl (by with_reducible repeat constructor) (rc_get hb0 hu2 rfl)) ?_)
    refine trw_read 16 [18,19,20,21,22,23,24] rfl (by kernel_rfl) rfl (rv_load isAgg157 rfl (by with_reducible repeat constructor) rfl) ?_
    refine trw_read 18 [19,20,21,22,23,24] rfl (by kernel_rfl) rfl (rv_indexAddr_sl runUnderlying157 sizeOf162 rfl rfl (by with_reducible repeat constructor) (by omega) (by omega)) ?_
    refine trw_pure 19 [20,21,22,23,24] rfl (by kernel_rfl) rfl (pv_fieldAddr runUnderlying162 rfl sizeOf3 rfl rfl) (trw_read 20 [21,22,23,24] rfl (by kernel_rfl) rfl (rv_load_sl isAgg3 rfl (by with_reducible repeat constructor) (rc_get ha0 hu rfl)) ?_)
    refine trw_pure 21 [22,23,24] rfl (by kernel_rfl) rfl (pv_minI rfl rfl) (trw_read 22 [23,24] rfl (by kernel_rfl) rfl (rv_indexAddr_sl runUnderlying157 sizeOf162 rfl rfl (by with_reducible repeat constructor) (by omega) (by omega)) ?_)
    refine trw_pure 23 [24] rfl (by kernel_rfl) rfl (pv_fieldAddr runUnderlying162 rfl sizeOf3 rfl rfl) (trw_one 24 (by kernel_rfl) ?_)
    refine trwat_eff0 rfl rfl rfl (ef_store_sl sizeOf3 rfl rfl (by first | rfl | assumption) (by with_reducible repeat constructor) (rc_lt (by rw [mk0_length]; omega) (by rw [mk0_length]; omega) (by decide)) (rc_set (i := j) (nd' := ⟨min b a, 0, false⟩) hb0 hu2 (by decide) rfl) ?_)
    refine ⟨?_, trivial⟩
    refine trw_nil ?_
    rw [mk0_set, ← fillStep_some hu hb ha, ← fillAll_succ]
    refine tr_keep (ks := [0,3]) (.cons rfl (.cons rfl .nil)) fun base => ?_
    refine tr_inBlock (tr_region (tmv rfl (trl_pv (pv_addI rfl rfl (by omega) (by omega)) ?_)))
    refine tas rfl (trl_nil (tr_again ih1 (i + 1) (by first | omega | (dsimp only; omega)) (.cons rfl (.cons (keep_int rfl (by omega)) .nil)) (holds_pure (by omega) (holds_of_picks (by with_reducible repeat constructor)))))
   ·refine tr_skip (tr_inBlock (tr_region (tmv rfl (trl_pv (pv_addI rfl rfl (by omega) (by omega)) ?_))))
    refine tas rfl (trl_nil ?_)
    have e := fillStep_none (l := fillAll (ups sh 0) (nums ++ List.replicate (total sh - nums.length) big) i) hu (by omega)
    rw [← fillAll_succ] at e
    refine tr_again ih1 (i + 1) (by first | omega | (dsimp only; omega)) (.cons rfl (.cons (keep_int rfl (by omega)) .nil)) (by rw [e]; exact holds_pure (by omega) (holds_of_picks (by with_reducible repeat constructor)))
  ·refine tr_exit rfl ?_
   have hie : i = total sh := by omega
   subst hie
   rw [fill_mins hH hE h0 hl hbig]
   refine Tr.fold (rt_fold (T := mk0 (mins sh nums)) (fresh := true) (v := v) (n := total sh) (cells := rcells (mk0 (mins sh nums)) (ups sh 0)) (lv := (leavesOf sh : Nat)) ho (by rw [mk0_length, mins_length _ _ hH hl]) rfl rfl rfl) (by with_reducible repeat constructor) ?_
   refine tr_end func80 rfl .nil (by kernel_rfl) .nil () rfl trivial (holds_of_picks (by with_reducible repeat constructor))
end Go.Proofs
