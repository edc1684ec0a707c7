/- Contracts of functions that the law reaches, in every memory (part Rtree4). -/
import Derived.Test.YtbmfgngjcpmjeaaGreatRtree3
set_option linter.unusedVariables false
set_option linter.unusedSimpArgs false
set_option maxRecDepth 10000
namespace Go.Proofs
open Go.Eng Tryz
theorem rtree_encode {r w : Nat} {sh : List (Nat × Nat)} {T0 T : List Nd} {fresh : Bool} {bs : List Bool} {k : Nat} {s0 : Nat × Nat} {bound : Int} (hF : Fine sh) (hE1 : Ends1 sh) (hz0 : sh[0]? = some s0) (hk : k < s0.1 * s0.2)
    (hfill : Spec Tryz.prog 80 [.pointer (some ⟨r, 0, none⟩)] [RT r sh T0 fresh] (fun _ : Unit => ⟨.tuple #[], True, [RT r sh T true]⟩))
    (hok : WayOk bound (tway sh (k : Int)) T 0) (hlen : bs.length + (encT sh T (k : Int) bound).1.length < 900000000000) (hb : bound < 1000000000000) :
    Spec Tryz.prog 37 [.pointer (some ⟨r, 0, none⟩), .pointer (some ⟨w, 0, none⟩), .int .i64 (k : Nat), .int .i64 bound] [RT r sh T0 fresh, WR w bs]
    (fun _ : Unit => ⟨.tuple #[], True, [RT r sh (encT sh T (k : Int) bound).2 true, WR w (bs ++ (encT sh T (k : Int) bound).1)]⟩) := by
 refine spec_of_tr func37 rfl ntmps37 (by kernel_rfl) ?_
 refine Tr.unfold rt_open .here fun v0 ⟨ho, hT0⟩ => ?_
 dsimp only [List.cons_append, List.nil_append]
 have hlv : leavesOf sh = s0.1 * s0.2 := by unfold leavesOf; rw [List.head?_eq_getElem?, hz0]
 have hwl := tway_le sh (k : Int)
 have hwl2 := hF.2.1
 have htf := total_fine hF
 have hul := ups_length sh 0
 refine tr_seq (tr_seq (tr_region (tmv rfl (trl_pv (pv_lss rfl rfl) (tmv rfl (trl_pvg rfl (decide_eq_false (by omega)) (pv_move rfl) ?_))))))
 refine trl_pvg rfl (decide_eq_false (by omega)) (pv_move rfl) ?_
 refine trl_pvg rfl (decide_eq_false (by omega)) (pv_nilCheck rfl) ?_
 refine trl_pvg rfl (decide_eq_false (by omega)) (pv_fieldAddr runUnderlying159 rfl sizeOf3 rfl rfl) ?_
 refine trl_valg rfl (decide_eq_false (by omega)) (rv_load isAgg3 rfl (by with_reducible repeat constructor) rfl) ?_
 refine trl_pvg rfl (decide_eq_false (by omega)) (pv_geq rfl rfl) ?_
 refine trl_pv (pv_pick_f rfl (decide_eq_false (by omega)) rfl) ?_
 refine trl_nil (tr_keep (ks := [0,1,2,3,21]) (.cons rfl (.cons rfl (.cons rfl (.cons rfl (.cons rfl .nil))))) fun base => ?_)
 refine tr_else rfl (decide_eq_false (by omega)) ?_
 refine tr_skip (tr_seq ?_)
 refine Tr.fold (rt_fold (T := T0) (fresh := fresh) (v := v0) (n := total sh) (cells := rcells (T0) (ups sh 0)) (lv := (leavesOf sh : Nat)) (ho) (hT0) rfl rfl rfl) (by with_reducible repeat constructor) ?_
 refine tr_region (tmv rfl (trl_eff (ef_call rfl rfl call80 (hfill) (by with_reducible repeat constructor) fun x23 hx23 => ?_)))
 dsimp only [List.cons_append, List.nil_append]
 refine trl_nil ?_
 refine Tr.unfold (rt_open (r := r) (sh := sh) (T := T) (fresh := true)) (by with_reducible repeat constructor) fun v ⟨ho1, hT⟩ => ?_
 dsimp only [List.cons_append, List.nil_append]
 refine tr_seq (tr_region (tmv rfl (tmv rfl (trl_eff (ef_call rfl rfl call81 (rtree_way hF hE1 hT hz0 hk) (by with_reducible repeat constructor) fun v26 ho26 => ?_)))))
 dsimp only [List.cons_append, List.nil_append]
 refine tas rfl (trl_nil (tr_keep (ks := [0,1,3,8]) (.cons rfl (.cons rfl (.cons rfl (.cons rfl .nil)))) fun base => ?_))
 refine tr_seq (tr_region (tas rfl (trl_nil (tr_seq (tr_region (tas rfl (trl_nil (tr_block (tr_while (α := Nat × List Nd × Int × List Bool) ((0, T, 0, [])) (fun x => (tway sh (k : Int)).length - x.1) (fun x => [(0, .pointer (some ⟨r, 0, none⟩)), (1, .pointer (some ⟨w, 0, none⟩)), (3, .int .i64 bound), (8, v26), (9, .int .i64 x.2.2.1), (10, .int .i64 (x.1 : Nat))]) (fun x => [pure' (x.1 ≤ (tway sh (k : Int)).length ∧ x.2.1.length = total sh ∧ 0 ≤ x.2.2.1 ∧ WayOk bound ((tway sh (k : Int)).drop x.1) x.2.1 x.2.2.1 ∧ encT sh T (k : Int) bound = (x.2.2.2 ++ (encWay bound ((tway sh (k : Int)).drop x.1) x.2.1 x.2.2.1).1, (encWay bound ((tway sh (k : Int)).drop x.1) x.2.1 x.2.2.1).2)), pt r 159 [v, .int .i64 (leavesOf sh : Nat), .bool true], Sl 162 4 (total sh) v (rcells x.2.1 (ups sh 0)), Sl 3 1 (tway sh (k : Int)).length v26 (nats (tway sh (k : Int))), WR w (bs ++ x.2.2.2)]) (ks := [0,1,3,8,9,10]) (.cons rfl (.cons rfl (.cons rfl (.cons rfl (.cons rfl (.cons rfl .nil)))))) (by simp only [List.append_nil]; exact holds_pure ⟨Nat.zero_le _, hT, Int.le_refl _, hok, rfl⟩ (holds_of_picks (by with_reducible repeat constructor))) ?_)))))))))
 intro ⟨j, T1, low, b1⟩ base ih0
 refine Tr.pure fun ⟨hj0, hT1, hlow, hwk, hB⟩ => ?_
 dsimp only at hj0 hT1 hlow hwk hB ⊢
 refine tr_seq (tr_seq (tr_region (tmv rfl (tmv rfl (trl_val (rv_len_sl runUnderlying38 rfl (by with_reducible repeat constructor)) ?_)))))
 refine trl_pv (pv_lss rfl rfl) (trl_nil (tr_if rfl (fun h1 => ?_) (fun h1 => ?_)))
 ·refine tr_skip (tr_seq (tr_block (tr_seq ?_)))
  obtain ⟨f, hf⟩ := get_some (l := tway sh (k : Int)) (i := j) (by omega)
  have hft := tway_lt hF.1 hf
  obtain ⟨nd, hnd⟩ := get_some (l := T1) (i := f) (by omega)
  obtain ⟨u, hu⟩ := get_some (l := ups sh 0) (i := f) (by rw [ups_length]; omega)
  have hst := wayOk_step hf hnd hwk
  refine tr_draww (rem := [0,1,2,3,4,5,6,7,8,9,10,11]) (by kernel_rfl) (by kernel_rfl) rfl ?_
  refine twm 0 [1,2,3,8,9,11] rfl (by kernel_rfl) rfl rfl (twn 1 [2,3,8,9,11] rfl (by kernel_rfl) rfl rfl (trw_pure 2 [3,8,9,11] rfl (by kernel_rfl) rfl (pv_fieldAddr runUnderlying159 rfl sizeOf157 rfl rfl) (twm 4 [6,7,8,9,11] rfl (by kernel_rfl) rfl rfl (twm 5 [6,7,8,9,11] rfl (by kernel_rfl) rfl rfl (trw_read 3 [8,9,11] rfl (by kernel_rfl) rfl (rv_load isAgg157 rfl (by with_reducible repeat constructor) rfl) ?_)))))
  refine trw_read 6 [7,8,9,11] rfl (by kernel_rfl) rfl (rv_indexAddr_sl runUnderlying38 sizeOf3 rfl rfl (by with_reducible repeat constructor) (by omega) (by omega)) ?_
  refine trw_read 7 [8,9,11] rfl (by kernel_rfl) rfl (rv_load_sl isAgg3 rfl (by with_reducible repeat constructor) (idx1 (nats_get hf))) ?_
  refine trw_read 8 [9,11] rfl (by kernel_rfl) rfl (rv_indexAddr_sl runUnderlying157 sizeOf162 rfl rfl (by with_reducible repeat constructor) (by omega) (by omega)) ?_
  refine trw_read 9 [11] rfl (by kernel_rfl) rfl (rv_load_agg_sl (us := [.int .i64 nd.n, .int .i64 nd.low, .bool nd.said, .int .i64 u]) isAgg162 sizeOf162 rfl (by with_reducible repeat constructor) rfl (rc_part (i := f) hnd hu) (by omega)) ?_
  refine trw_one 10 (by kernel_rfl) ?_
  refine trwat_eff rfl rfl rfl (ef_alloc zeroValue162 (by dsimp only [cellsL, List.toList_toArray]) fun r11 => ?_)
  refine ⟨?_, (rv_load_agg_sl (us := [.int .i64 nd.n, .int .i64 nd.low, .bool nd.said, .int .i64 u]) isAgg162 sizeOf162 rfl (by with_reducible repeat constructor) rfl (rc_part (i := f) hnd hu) (by omega)), (rv_indexAddr_sl runUnderlying157 sizeOf162 rfl rfl (by with_reducible repeat constructor) (by omega) (by omega)), (rv_load_sl isAgg3 rfl (by with_reducible repeat constructor) (idx1 (nats_get hf))), (rv_indexAddr_sl runUnderlying38 sizeOf3 rfl rfl (by with_reducible repeat constructor) (by omega) (by omega)), (rv_load isAgg157 rfl (by with_reducible repeat constructor) rfl), trivial⟩
  refine trw_one 11 (by kernel_rfl) ?_
  refine trwat_eff0 rfl rfl rfl (ef_store_agg sizeOf162 rfl rfl rfl (by with_reducible repeat constructor) rfl ?_)
  refine ⟨?_, trivial⟩
  refine trw_nil (tr_keep (ks := [0,1,3,8,9,10,11]) (.cons rfl (.cons rfl (.cons rfl (.cons rfl (.cons rfl (.cons rfl (.cons rfl .nil))))))) fun base => ?_)
  refine tr_seq (tr_region (trl_pv (pv_fieldAddr runUnderlying162 rfl sizeOf3 rfl rfl) (trl_val (rv_load isAgg3 rfl (by with_reducible repeat constructor) rfl) ?_)))
  refine tmv rfl (trl_pv (pv_maxI rfl rfl) (trl_pv (pv_fieldAddr runUnderlying162 rfl sizeOf3 rfl rfl) (trl_eff0 (ef_store sizeOf3 rfl rfl (by first | rfl | assumption) (by with_reducible repeat constructor) rfl ?_))))
  refine trl_nil (tr_seq (tr_block (tr_while (α := Nd × List Bool × Nat) ((⟨nd.n, max nd.low low, nd.said⟩, [], (bound - max nd.low low).toNat)) (fun x => 2 * x.2.2 + (if x.1.said then 0 else 1)) (fun x => [(0, .pointer (some ⟨r, 0, none⟩)), (1, .pointer (some ⟨w, 0, none⟩)), (3, .int .i64 bound), (8, v26), (10, .int .i64 (j : Nat)), (11, .pointer (some ⟨r11, 0, none⟩))]) (fun x => [pure' (x.2.2 = (bound - x.1.low).toNat ∧ 0 ≤ x.1.low ∧ x.1.low ≤ x.1.n ∧ encNode nd low bound = (x.2.1 ++ (encLoop x.2.2 x.1).1, (encLoop x.2.2 x.1).2)), pt r11 162 [.int .i64 x.1.n, .int .i64 x.1.low, .bool x.1.said, .int .i64 u], pt r 159 [v, .int .i64 (leavesOf sh : Nat), .bool true], Sl 162 4 (total sh) v (rcells T1 (ups sh 0)), Sl 3 1 (tway sh (k : Int)).length v26 (nats (tway sh (k : Int))), WR w (bs ++ b1 ++ x.2.1)]) (ks := [0,1,3,8,10,11]) (.cons rfl (.cons rfl (.cons rfl (.cons rfl (.cons rfl (.cons rfl .nil)))))) (by dsimp only; rw [List.append_nil]; exact holds_pure ⟨rfl, by omega, by omega, by unfold encNode; simp⟩ (holds_of_picks (by with_reducible repeat constructor))) ?_)))
  intro ⟨nd2, c1, f2⟩ base ih1
  refine Tr.pure fun ⟨hfu, hlo2, hln, hE⟩ => ?_
  dsimp only at hfu hlo2 hln hE ⊢
  have hbl : bs.length + b1.length + c1.length < 900000000000 := by have h1 := congrArg (fun x => x.1.length) (hB.trans (by rw [way_step hf hnd hE])); simp only [List.length_append] at h1; omega
  refine tr_seq (tr_seq (tr_region (trl_pv (pv_fieldAddr runUnderlying162 rfl sizeOf3 rfl rfl) (trl_val (rv_load isAgg3 rfl (by with_reducible repeat constructor) rfl) ?_))))
  refine tmv rfl (trl_pv (pv_lss rfl rfl) (tmv rfl (trl_split 4 rfl (fun g52 => ?_) (fun g52 => ?_))))
  ·refine trl_pvg rfl (decide_eq_true g52) (pv_fieldAddr runUnderlying162 rfl sizeOf4 rfl rfl) (trl_valg rfl (decide_eq_true g52) (rv_load isAgg4 rfl (by with_reducible repeat constructor) rfl) ?_)
   refine trl_pvg rfl (decide_eq_true g52) (pv_not rfl) (trl_pv (pv_pick_t rfl (decide_eq_true g52) rfl) (trl_nil (tr_keep (ks := [0,1,3,8,10,11,56]) (.cons rfl (.cons rfl (.cons rfl (.cons rfl (.cons rfl (.cons rfl (.cons rfl .nil))))))) fun base => ?_)))
   refine tr_ifb rfl (fun h2 => ?_) (fun h2 => ?_)
   ·have hsd : nd2.said = false := by simpa using h2
    refine tr_skip (tr_block (tr_seq (tr_seq (tr_region (trl_pv (pv_fieldAddr runUnderlying162 rfl sizeOf3 rfl rfl) (trl_val (rv_load isAgg3 rfl (by with_reducible repeat constructor) rfl) ?_))))))
    refine trl_pv (pv_fieldAddr runUnderlying162 rfl sizeOf3 rfl rfl) (trl_val (rv_load isAgg3 rfl (by with_reducible repeat constructor) rfl) ?_)
    refine trl_pv (pv_eql rfl rfl) (trl_nil (tr_if rfl (fun h3 => ?_) (fun h3 => ?_)))
    ·refine tr_seq (tr_region (tmv rfl (trl_eff (ef_call rfl rfl call35 (wr_bit (bs := bs ++ b1 ++ c1) (by simp; omega)) (by with_reducible repeat constructor) fun x63 hx63 => ?_))))
     dsimp only [List.cons_append, List.nil_append]
     refine trl_nil ?_
     rw [show decide ((1 : Int) % 2 = 1) = true from rfl]
     refine tr_keep (ks := [0,1,3,8,10,11]) (.cons rfl (.cons rfl (.cons rfl (.cons rfl (.cons rfl (.cons rfl .nil)))))) fun base => ?_
     refine tr_seq (tr_region (trl_pv (pv_fieldAddr runUnderlying162 rfl sizeOf4 rfl rfl) (trl_eff0 (ef_store sizeOf4 rfl rfl (by first | rfl | assumption) (by with_reducible repeat constructor) rfl ?_))))
     refine trl_nil (tr_exit rfl (tr_again ih1 (⟨nd2.n, nd2.low, true⟩, c1 ++ [true], f2) (by show 2 * f2 + 0 < 2 * f2 + (if nd2.said = true then 0 else 1); rw [hsd]; simp) (.cons rfl (.cons rfl (.cons rfl (.cons rfl (.cons rfl (.cons rfl .nil)))))) (by dsimp only; rw [← List.append_assoc]; exact holds_pure ⟨hfu, hlo2, hln, by rw [hE, enc_one hfu g52 hsd (by omega), enc_stop (f := f2) (x := (⟨nd2.n, nd2.low, true⟩ : Nd)) hfu (.inr rfl)]; simp⟩ (holds_of_picks (by with_reducible repeat constructor)))))
    ·refine tr_skip (tr_seq (tr_region (tmv rfl (trl_eff (ef_call rfl rfl call35 (wr_bit (bs := bs ++ b1 ++ c1) (by simp; omega)) (by with_reducible repeat constructor) fun x66 hx66 => ?_)))))
     dsimp only [List.cons_append, List.nil_append]
     refine trl_nil ?_
     rw [show decide ((0 : Int) % 2 = 1) = false from rfl]
     refine tr_keep (ks := [0,1,3,8,10,11]) (.cons rfl (.cons rfl (.cons rfl (.cons rfl (.cons rfl (.cons rfl .nil)))))) fun base => ?_
     refine tr_region (trl_pv (pv_fieldAddr runUnderlying162 rfl sizeOf3 rfl rfl) (trl_val (rv_load isAgg3 rfl (by with_reducible repeat constructor) rfl) ?_))
     refine trl_pv (pv_addI rfl rfl (by omega) (by omega)) ?_
     refine trl_pv (pv_fieldAddr runUnderlying162 rfl sizeOf3 rfl rfl) (trl_eff0 (ef_store sizeOf3 rfl rfl (by first | rfl | assumption) (by with_reducible repeat constructor) rfl ?_))
     refine trl_nil (tr_inBlock (tr_again ih1 (⟨nd2.n, nd2.low + 1, nd2.said⟩, c1 ++ [false], f2 - 1) (by show 2 * (f2 - 1) + (if nd2.said = true then 0 else 1) < 2 * f2 + (if nd2.said = true then 0 else 1); omega) (.cons rfl (.cons rfl (.cons rfl (.cons rfl (.cons rfl (.cons rfl .nil)))))) (by dsimp only; rw [← List.append_assoc]; exact holds_pure ⟨by omega, by omega, by omega, by rw [hE, enc_zero hfu g52 hsd (by omega)]; simp⟩ (holds_of_picks (by with_reducible repeat constructor)))))
   ·refine tr_exit rfl (tr_seq (tr_draww (rem := [0,1,2,3,4,5,6,7,8,9,10]) (by kernel_rfl) (by kernel_rfl) rfl ?_))
    refine twm 0 [1,2,3,9,10] rfl (by kernel_rfl) rfl rfl (twn 1 [2,3,9,10] rfl (by kernel_rfl) rfl rfl (trw_pure 2 [3,9,10] rfl (by kernel_rfl) rfl (pv_fieldAddr runUnderlying159 rfl sizeOf157 rfl rfl) (twm 4 [6,7,9,10] rfl (by kernel_rfl) rfl rfl (twm 5 [6,7,9,10] rfl (by kernel_rfl) rfl rfl (trw_read 3 [9,10] rfl (by kernel_rfl) rfl (rv_load isAgg157 rfl (by with_reducible repeat constructor) rfl) ?_)))))
    refine trw_read 6 [7,9,10] rfl (by kernel_rfl) rfl (rv_indexAddr_sl runUnderlying38 sizeOf3 rfl rfl (by with_reducible repeat constructor) (by omega) (by omega)) ?_
    refine trw_read 7 [9,10] rfl (by kernel_rfl) rfl (rv_load_sl isAgg3 rfl (by with_reducible repeat constructor) (idx1 (nats_get hf))) ?_
    refine trw_read 8 [9,10] rfl (by kernel_rfl) rfl (rv_load_agg isAgg162 sizeOf162 rfl (by with_reducible repeat constructor) rfl) ?_
    refine trw_read 9 [10] rfl (by kernel_rfl) rfl (rv_indexAddr_sl runUnderlying157 sizeOf162 rfl rfl (by with_reducible repeat constructor) (by omega) (by omega)) ?_
    refine trw_one 10 (by kernel_rfl) ?_
    refine trwat_eff0 rfl rfl rfl (ef_store_agg_sl sizeOf162 rfl rfl rfl (by with_reducible repeat constructor) (by rw [rc_len (by omega)]; simp; omega) (by omega) (rc_put (i := f) (nd' := nd2) (by omega) hu) ?_)
    refine ⟨?_, trivial⟩
    refine trw_nil (tr_keep (ks := [0,1,3,8,10,11]) (.cons rfl (.cons rfl (.cons rfl (.cons rfl (.cons rfl (.cons rfl .nil)))))) fun base => ?_)
    refine tr_region (trl_pv (pv_fieldAddr runUnderlying162 rfl sizeOf3 rfl rfl) (trl_val (rv_load isAgg3 rfl (by with_reducible repeat constructor) rfl) ?_))
    refine tas rfl (trl_nil (tr_inBlock (tr_region (tmv rfl (trl_pv (pv_addI rfl rfl (by omega) (by omega)) ?_)))))
    refine tas rfl (trl_nil ?_)
    have he : encNode nd low bound = (c1, nd2) := by rw [hE, enc_stop hfu (.inr (by simpa using h2))]; simp
    refine tr_again ih0 (j + 1, T1.set f nd2, nd2.low, b1 ++ c1) (by first | omega | (dsimp only; omega)) (.cons rfl (.cons rfl (.cons rfl (.cons rfl (.cons (keep_v rfl rfl) (.cons (keep_int rfl (by dsimp only; omega)) .nil)))))) (by dsimp only; rw [← List.append_assoc]; exact holds_pure ⟨by omega, by simp [hT1], hlo2, by have h5 := hst.2; rw [he] at h5; exact h5, by rw [hB, way_step hf hnd he]; simp [List.append_assoc]⟩ (holds_of_picks (by with_reducible repeat constructor)))
  ·refine trl_not rfl (decide_eq_false g52) ?_
   refine trl_not rfl (decide_eq_false g52) ?_
   refine trl_not rfl (decide_eq_false g52) ?_
   refine trl_pv (pv_pick_f rfl (decide_eq_false g52) rfl) (trl_nil (tr_keep (ks := [0,1,3,8,10,11,56]) (.cons rfl (.cons rfl (.cons rfl (.cons rfl (.cons rfl (.cons rfl (.cons rfl .nil))))))) fun base => ?_))
   refine tr_else rfl rfl ?_
   refine tr_exit rfl (tr_seq (tr_draww (rem := [0,1,2,3,4,5,6,7,8,9,10]) (by kernel_rfl) (by kernel_rfl) rfl ?_))
   refine twm 0 [1,2,3,9,10] rfl (by kernel_rfl) rfl rfl (twn 1 [2,3,9,10] rfl (by kernel_rfl) rfl rfl (trw_pure 2 [3,9,10] rfl (by kernel_rfl) rfl (pv_fieldAddr runUnderlying159 rfl sizeOf157 rfl rfl) (twm 4 [6,7,9,10] rfl (by kernel_rfl) rfl rfl (twm 5 [6,7,9,10] rfl (by kernel_rfl) rfl rfl (trw_read 3 [9,10] rfl (by kernel_rfl) rfl (rv_load isAgg157 rfl (by with_reducible repeat constructor) rfl) ?_)))))
   refine trw_read 6 [7,9,10] rfl (by kernel_rfl) rfl (rv_indexAddr_sl runUnderlying38 sizeOf3 rfl rfl (by with_reducible repeat constructor) (by omega) (by omega)) ?_
   refine trw_read 7 [9,10] rfl (by kernel_rfl) rfl (rv_load_sl isAgg3 rfl (by with_reducible repeat constructor) (idx1 (nats_get hf))) ?_
   refine trw_read 8 [9,10] rfl (by kernel_rfl) rfl (rv_load_agg isAgg162 sizeOf162 rfl (by with_reducible repeat constructor) rfl) ?_
   refine trw_read 9 [10] rfl (by kernel_rfl) rfl (rv_indexAddr_sl runUnderlying157 sizeOf162 rfl rfl (by with_reducible repeat constructor) (by omega) (by omega)) ?_
   refine trw_one 10 (by kernel_rfl) ?_
   refine trwat_eff0 rfl rfl rfl (ef_store_agg_sl sizeOf162 rfl rfl rfl (by with_reducible repeat constructor) (by rw [rc_len (by omega)]; simp; omega) (by omega) (rc_put (i := f) (nd' := nd2) (by omega) hu) ?_)
   refine ⟨?_, trivial⟩
   refine trw_nil (tr_keep (ks := [0,1,3,8,10,11]) (.cons rfl (.cons rfl (.cons rfl (.cons rfl (.cons rfl (.cons rfl .nil)))))) fun base => ?_)
   refine tr_region (trl_pv (pv_fieldAddr runUnderlying162 rfl sizeOf3 rfl rfl) (trl_val (rv_load isAgg3 rfl (by with_reducible repeat constructor) rfl) ?_))
   refine tas rfl (trl_nil (tr_inBlock (tr_region (tmv rfl (trl_pv (pv_addI rfl rfl (by omega) (by omega)) ?_)))))
   refine tas rfl (trl_nil ?_)
   have he : encNode nd low bound = (c1, nd2) := by rw [hE, enc_stop hfu (.inl (by omega))]; simp
   refine tr_again ih0 (j + 1, T1.set f nd2, nd2.low, b1 ++ c1) (by first | omega | (dsimp only; omega)) (.cons rfl (.cons rfl (.cons rfl (.cons rfl (.cons (keep_v rfl rfl) (.cons (keep_int rfl (by dsimp only; omega)) .nil)))))) (by dsimp only; rw [← List.append_assoc]; exact holds_pure ⟨by omega, by simp [hT1], hlo2, by have h5 := hst.2; rw [he] at h5; exact h5, by rw [hB, way_step hf hnd he]; simp [List.append_assoc]⟩ (holds_of_picks (by with_reducible repeat constructor)))
 ·refine tr_exit rfl ?_
  rw [way_end (by omega)] at hB
  rw [hB]
  simp only [List.append_nil]
  refine Tr.fold (rt_fold (T := T1) (fresh := true) (v := v) (n := total sh) (cells := rcells (T1) (ups sh 0)) (lv := (leavesOf sh : Nat)) (ho1) (hT1) rfl rfl rfl) (by with_reducible repeat constructor) ?_
  refine tr_end func37 rfl .nil (by kernel_rfl) .nil () rfl trivial (holds_of_picks (by with_reducible repeat constructor))
end Go.Proofs
