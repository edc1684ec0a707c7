/- Contracts of functions that the law reaches, in every memory (part Bits). -/
import Derived.Test.YtbmfgngjcpmjeaaGreatEngC
import Derived.Test.YtbmfgngjcpmjeaaGreatPlainA
import Derived.Test.YtbmfgngjcpmjeaaGreatProg
import Derived.KernelRfl
set_option linter.unusedVariables false
set_option linter.unusedSimpArgs false
set_option maxRecDepth 10000
namespace Go.Proofs
open Go.Eng Tryz
def WP (r : Nat) (bs : List Bool) : SL := ex fun v => star (pt r 148 [v, .int .i64 ((bw bs).2 : Nat)]) (Sl 5 1 (bw bs).1.length v (u8s (bw bs).1))
theorem wp_open {r : Nat} {bs : List Bool} : Unfold (WP r bs) (fun v => one? v = true) (fun v => [pt r 148 [v, .int .i64 ((bw bs).2 : Nat)], Sl 5 1 (bw bs).1.length v (u8s (bw bs).1)]) := by
  intro F w N h
  obtain ⟨v, h⟩ := Holds.ex.1 h
  have h := Holds.star.1 h
  refine ⟨v, ?_, h⟩
  rcases holds_sl.1 (h.perm (List.Perm.swap _ _ _)) with ⟨_, rfl, _⟩ | ⟨_, _, _, rfl, _⟩ <;> rfl
theorem wp_fold {r n : Nat} {bs : List Bool} {v : Value} {l : List Nat} {room : Int} {cells : List Value} (h : bw bs = (l, room.toNat)) (h0 : 0 ≤ room) (hn : l.length = n) (hc : u8s l = cells) :
    Fold [pt r 148 [v, .int .i64 room], Sl 5 1 n v cells] (WP r bs) := by
  intro F w N hw
  refine Holds.ex.2 ⟨v, Holds.star.2 ?_⟩
  subst hn; subst hc
  rw [h]
  dsimp only
  rw [Int.toNat_of_nonneg h0]
  exact hw
theorem wp_new : Spec Tryz.prog 25 [] [] (fun r : Nat => ⟨.pointer (some ⟨r, 0, none⟩), True, [WP r []]⟩) := by
 refine spec_of_tr func25 rfl ntmps25 (by kernel_rfl) ?_
 refine tr_seq (tr_region (tas rfl (trl_nil (tr_seq (tr_region (trl_pv (pv_build (pl := [(0, 1), (1, 1)]) runUnderlying148 zeroValue148 (fun w => by simp [sizeOf146, sizeOf3]) (by dsimp only [cellsL, List.toList_toArray]) rfl rfl) ?_))))))
 refine trl_eff (ef_box rfl (by dsimp only [cellsL, List.toList_toArray]) fun r2 => ?_)
 refine tas rfl (trl_nil ?_)
 refine tr_empty 5 1 none ?_
 refine Tr.fold (wp_fold (r := r2) (bs := []) (room := 0) (l := []) (n := 0) (cells := []) rfl (by omega) rfl rfl) (by with_reducible repeat constructor) ?_
 refine tr_ret func25 rfl .nil (by kernel_rfl) (.tmp rfl .nil) r2 rfl trivial (holds_of_picks (by with_reducible repeat constructor))
theorem row_last {r T : Nat} {v : Value} {cs : List Value} {l : List Nat} (hl : l.length < 1099511627776) : Spec Tryz.prog 72 [.pointer (some ⟨r, 0, none⟩)] [pt r T (v :: cs), Sl 5 1 l.length v (u8s l)]
    (fun _ : Unit => ⟨.int .u8 ((l.getLast?.getD 0 : Nat) : Int), True, [pt r T (v :: cs), Sl 5 1 l.length v (u8s l)]⟩) := by
 refine spec_of_tr func72 rfl ntmps72 (by kernel_rfl) ?_
 refine tr_seq (tr_region (tas rfl (trl_nil (tr_seq (tr_region (tas rfl (trl_nil (tr_seq (tr_seq (tr_region (tmv rfl (tnc rfl (trl_pv (pv_fieldAddr runUnderlying146 rfl sizeOf30 rfl rfl) ?_)))))))))))))
 refine trl_val (rv_load isAgg30 rfl (by with_reducible repeat constructor) rfl) ?_
 refine trl_val (rv_len_sl runUnderlying30 rfl (by with_reducible repeat constructor)) ?_
 refine trl_pv (pv_eql rfl rfl) (trl_nil (tr_if rfl (fun h0 => ?_) (fun h0 => ?_)))
 ·refine tr_seq (tr_region (tmv rfl (tas rfl (trl_nil (tr_keep (ks := [2]) (.cons rfl .nil) fun base => ?_)))))
  refine tr_ret func72 rfl .nil (by kernel_rfl) (.tmp rfl .nil) () (by rw [List.eq_nil_of_length_eq_zero (l := l) (by omega)]; rfl) trivial (holds_of_picks (by with_reducible repeat constructor))
 ·refine tr_skip (tr_seq (tr_draww (rem := [0,1,2,3,4,5,6,7,8,9,10,11,12]) (by kernel_rfl) (by kernel_rfl) rfl ?_))
  refine twm 0 [1,2,3,10,11,12] rfl (by kernel_rfl) rfl rfl (twn 1 [2,3,10,11,12] rfl (by kernel_rfl) rfl rfl (trw_pure 2 [3,10,11,12] rfl (by kernel_rfl) rfl (pv_fieldAddr runUnderlying146 rfl sizeOf30 rfl rfl) (twm 4 [5,6,7,8,9,10,11,12] rfl (by kernel_rfl) rfl rfl (twn 5 [6,7,8,9,10,11,12] rfl (by kernel_rfl) rfl rfl (trw_pure 6 [7,8,9,10,11,12] rfl (by kernel_rfl) rfl (pv_fieldAddr runUnderlying146 rfl sizeOf30 rfl rfl) (trw_read 3 [10,11,12] rfl (by kernel_rfl) rfl (rv_load isAgg30 rfl (by with_reducible repeat constructor) rfl) ?_))))))
  refine trw_read 7 [8,9,10,11,12] rfl (by kernel_rfl) rfl (rv_load isAgg30 rfl (by with_reducible repeat constructor) rfl) ?_
  refine trw_read 8 [9,10,11,12] rfl (by kernel_rfl) rfl (rv_len_sl runUnderlying30 rfl (by with_reducible repeat constructor)) ?_
  refine trw_pure 9 [10,11,12] rfl (by kernel_rfl) rfl (pv_subI rfl rfl (by omega) (by omega)) ?_
  refine trw_read 10 [11,12] rfl (by kernel_rfl) rfl (rv_indexAddr_sl runUnderlying30 sizeOf5 rfl rfl (by with_reducible repeat constructor) (by omega) (by omega)) ?_
  refine trw_read 11 [12] rfl (by kernel_rfl) rfl (rv_load_sl isAgg5 rfl (by with_reducible repeat constructor) (u8s_last (by omega))) ?_
  refine trw_pure 12 [] rfl (by kernel_rfl) rfl (pv_assign rfl) (trw_nil (tr_keep (ks := [2]) (.cons rfl .nil) fun base => ?_))
  refine tr_ret func72 rfl .nil (by kernel_rfl) (.tmp rfl .nil) () rfl trivial (holds_of_picks (by with_reducible repeat constructor))
theorem row_put {r T : Nat} {v : Value} {cs : List Value} {l : List Nat} {x : Nat} (hl : l.length < 1099511627776) : Spec Tryz.prog 109 [.pointer (some ⟨r, 0, none⟩), .int .u8 (x : Int)] [pt r T (v :: cs), Sl 5 1 l.length v (u8s l)]
    (fun v' : Value => ⟨.tuple #[], one? v' = true, [pt r T (v' :: cs), Sl 5 1 (l.length + 1) v' (u8s l ++ [.int .u8 (x : Int)])]⟩) := by
 refine spec_of_tr func109 rfl ntmps109 (by kernel_rfl) ?_
 refine tr_region (tmv rfl (tmv rfl (tnc rfl (trl_pv (pv_fieldAddr runUnderlying146 rfl sizeOf30 rfl rfl) (trl_val (rv_load isAgg30 rfl (by with_reducible repeat constructor) rfl) ?_)))))
 refine tmv rfl (trl_eff (ef_buildSlice runUnderlying30 sizeOf5 zeroValue5 rfl rfl rfl rfl rfl (by dsimp only [flatC, cellsL, List.toList_toArray, List.cons_append, List.nil_append, List.append_nil]) fun r10 => ?_))
 refine trl_eff (ef_append runUnderlying30 runUnderlying30 typeInfo5 sizeOf5 zeroValue5 rfl rfl rfl (by with_reducible repeat constructor) (reads_pt (by with_reducible repeat constructor) rfl) rfl (by simp [one?]) (by rw [show Tryz.t5.bytes = 1 from rfl]; omega) fun v11 ho11 => ?_)
 refine tnc rfl (trl_pv (pv_fieldAddr runUnderlying146 rfl sizeOf30 rfl rfl) (trl_eff0 (ef_store sizeOf30 rfl rfl (by first | rfl | assumption) (by with_reducible repeat constructor) rfl ?_)))
 refine trl_nil (tr_keep (ks := []) (.nil) fun base => ?_)
 refine tr_end func109 rfl .nil (by kernel_rfl) .nil v11 rfl ho11 (holds_of_picks (by with_reducible repeat constructor))
theorem wp_bit {r : Nat} {bs : List Bool} {a : Int} (hl : bs.length < 1099511627776) : Spec Tryz.prog 71 [.pointer (some ⟨r, 0, none⟩), .int .i64 a] [WP r bs]
    (fun _ : Unit => ⟨.tuple #[], True, [WP r (bs ++ [decide (a % 2 = 1)])]⟩) := by
 refine spec_of_tr func71 rfl ntmps71 (by kernel_rfl) ?_
 have hb := bw_ok bs
 have hbl := bw_length bs
 refine Tr.unfold wp_open .here fun v ho => ?_
 dsimp only [List.cons_append, List.nil_append]
 refine tr_seq (tr_seq (tr_region (tmv rfl (tnc rfl (trl_pv (pv_fieldAddr runUnderlying148 rfl sizeOf3 rfl rfl) (trl_val (rv_load isAgg3 rfl (by with_reducible repeat constructor) rfl) ?_))))))
 refine trl_pv (pv_eql rfl rfl) (trl_nil ?_)
 refine tr_join (α := Value × List Nat × Int) (fun _ => [(0, .pointer (some ⟨r, 0, none⟩)), (1, .int .i64 a)]) (fun y => [pure' (one? y.1 = true ∧ 0 ≤ y.2.2 ∧ Mid (bw bs) y.2.1 y.2.2.toNat), pt r 148 [y.1, .int .i64 y.2.2], Sl 5 1 y.2.1.length y.1 (u8s y.2.1)]) (fun K0 hK0 => ?_) ?_
 ·refine tr_if rfl (fun h0 => ?_) (fun h0 => ?_)
  ·refine tr_seq (tr_region (tmv rfl (tnc rfl (trl_pv (pv_fieldAddr runUnderlying148 rfl sizeOf3 rfl rfl) (trl_eff0 (ef_store sizeOf3 rfl rfl (by first | rfl | assumption) (by with_reducible repeat constructor) rfl ?_))))))
   refine trl_nil (tr_keep (ks := [0,1]) (.cons rfl (.cons rfl .nil)) fun base => ?_)
   refine tr_seq (tr_seq (tr_region (tmv rfl (tnc rfl (trl_pv (pv_fieldAddr runUnderlying148 rfl sizeOf146 rfl rfl) (trl_eff (ef_call rfl rfl call72 (row_last (l := (bw bs).1) (by omega)) (by with_reducible repeat constructor) fun x15 hx15 => ?_)))))))
   dsimp only [List.cons_append, List.nil_append]
   refine trl_pv (pv_eql rfl rfl) (trl_nil (tr_if rfl (fun h1 => ?_) (fun h1 => ?_)))
   ·refine tr_region (tmv rfl (tnc rfl (trl_pv (pv_fieldAddr runUnderlying148 rfl sizeOf3 rfl rfl) (trl_eff0 (ef_store sizeOf3 rfl rfl (by first | rfl | assumption) (by with_reducible repeat constructor) rfl ?_)))))
    refine trl_nil (tr_keep (ks := [0,1]) (.cons rfl (.cons rfl .nil)) fun base => ?_)
    refine tr_region (tmv rfl (tnc rfl (trl_pv (pv_fieldAddr runUnderlying148 rfl sizeOf146 rfl rfl) (trl_eff (ef_call rfl rfl call109 (row_put (l := (bw bs).1) (x := 0) (by omega)) (by with_reducible repeat constructor) fun v23 ho23 => ?_)))))
    dsimp only [List.cons_append, List.nil_append]
    refine trl_nil (tr_meet hK0 (v23, (bw bs).1 ++ [0], 7) (.cons rfl (.cons rfl .nil)) (by simp only [List.length_append, List.length_singleton, u8s_append, u8s_one]; exact holds_pure ⟨ho23, by decide, mid_new (by omega) (bwRoom_7 h1)⟩ (holds_of_picks (by with_reducible repeat constructor))))
   ·refine tr_skip (tr_region (tmv rfl (tnc rfl (trl_pv (pv_fieldAddr runUnderlying148 rfl sizeOf146 rfl rfl) (trl_eff (ef_call rfl rfl call109 (row_put (l := (bw bs).1) (x := 0) (by omega)) (by with_reducible repeat constructor) fun v23 ho23 => ?_))))))
    dsimp only [List.cons_append, List.nil_append]
    refine trl_nil (tr_keep (ks := [0,1]) (.cons rfl (.cons rfl .nil)) fun base => ?_)
    refine tr_meet hK0 (v23, (bw bs).1 ++ [0], 8) (.cons rfl (.cons rfl .nil)) (by simp only [List.length_append, List.length_singleton, u8s_append, u8s_one]; exact holds_pure ⟨ho23, by decide, mid_new (by omega) (bwRoom_8 h1)⟩ (holds_of_picks (by with_reducible repeat constructor)))
  ·refine tr_skip (tr_meet hK0 (v, (bw bs).1, (bw bs).2) (.cons rfl (.cons rfl .nil)) (holds_pure ⟨ho, by dsimp only; omega, by simpa using mid_more hb (by omega)⟩ (holds_of_picks (by with_reducible repeat constructor))))
 ·intro ⟨v, l, rm⟩ base
  refine Tr.pure fun ⟨ho, h0, hm⟩ => ?_
  dsimp only at h0 hm ⊢
  obtain ⟨rm, rfl⟩ := Int.eq_ofNat_of_zero_le h0
  rw [Int.toNat_natCast] at hm
  obtain ⟨m1, m2, m3, m4, m5, m6, m7⟩ := id hm
  refine tr_seq (tr_region (tmv rfl (tnc rfl (trl_pv (pv_fieldAddr runUnderlying148 rfl sizeOf3 rfl rfl) (trl_val (rv_load isAgg3 rfl (by with_reducible repeat constructor) rfl) ?_)))))
  refine trl_pv (pv_subI rfl rfl (by omega) (by omega)) ?_
  refine tnc rfl (trl_pv (pv_fieldAddr runUnderlying148 rfl sizeOf3 rfl rfl) (trl_eff0 (ef_store sizeOf3 rfl rfl (by first | rfl | assumption) (by with_reducible repeat constructor) rfl ?_)))
  refine trl_nil (tr_keep (ks := [0,1]) (.cons rfl (.cons rfl .nil)) fun base => ?_)
  refine tr_draww (rem := [0,1,2,3,4,5,6,7,8,9,10,11,12,13,14,15,16,17,18,19,20,21,22,23,24]) (by kernel_rfl) (by kernel_rfl) rfl ?_
  refine twm 0 [1,2,3,4,12,13,22,23,24] rfl (by kernel_rfl) rfl rfl (twn 1 [2,3,4,12,13,22,23,24] rfl (by kernel_rfl) rfl rfl (trw_pure 2 [3,4,12,13,22,23,24] rfl (by kernel_rfl) rfl (pv_fieldAddr runUnderlying148 rfl sizeOf146 rfl rfl) (trw_pure 3 [4,12,13,22,23,24] rfl (by kernel_rfl) rfl (pv_fieldAddr runUnderlying146 rfl sizeOf30 rfl rfl) (twm 5 [6,7,8,9,10,11,12,13,22,23,24] rfl (by kernel_rfl) rfl rfl (twn 6 [7,8,9,10,11,12,13,22,23,24] rfl (by kernel_rfl) rfl rfl (trw_pure 7 [8,9,10,11,12,13,22,23,24] rfl (by kernel_rfl) rfl (pv_fieldAddr runUnderlying148 rfl sizeOf146 rfl rfl) (trw_pure 8 [9,10,11,12,13,22,23,24] rfl (by kernel_rfl) rfl (pv_fieldAddr runUnderlying146 rfl sizeOf30 rfl rfl) (twm 14 [15,16,21,22,23,24] rfl (by kernel_rfl) rfl rfl (trw_pure 15 [16,21,22,23,24] rfl (by kernel_rfl) rfl (pv_and rfl rfl) (trw_pure 16 [21,22,23,24] rfl (by kernel_rfl) rfl (pv_convert runUnderlying3 runUnderlying5 rfl) (twm 17 [18,19,20,21,22,23,24] rfl (by kernel_rfl) rfl rfl (twn 18 [19,20,21,22,23,24] rfl (by kernel_rfl) rfl rfl (trw_pure 19 [20,21,22,23,24] rfl (by kernel_rfl) rfl (pv_fieldAddr runUnderlying148 rfl sizeOf3 rfl rfl) ?_)))))))))))))
  refine trw_read 4 [12,13,22,23,24] rfl (by kernel_rfl) rfl (rv_load isAgg30 rfl (by with_reducible repeat constructor) rfl) ?_
  refine trw_read 9 [10,11,12,13,22,23,24] rfl (by kernel_rfl) rfl (rv_load isAgg30 rfl (by with_reducible repeat constructor) rfl) ?_
  refine trw_read 10 [11,12,13,22,23,24] rfl (by kernel_rfl) rfl (rv_len_sl runUnderlying30 rfl (by with_reducible repeat constructor)) ?_
  refine trw_pure 11 [12,13,22,23,24] rfl (by kernel_rfl) rfl (pv_subI rfl rfl (by omega) (by omega)) ?_
  refine trw_read 12 [13,22,23,24] rfl (by kernel_rfl) rfl (rv_indexAddr_sl runUnderlying30 sizeOf5 rfl rfl (by with_reducible repeat constructor) (by omega) (by omega)) ?_
  refine trw_read 13 [22,23,24] rfl (by kernel_rfl) rfl (rv_load_sl isAgg5 rfl (by with_reducible repeat constructor) (u8s_last m3)) ?_
  refine trw_read 20 [21,22,23,24] rfl (by kernel_rfl) rfl (rv_load isAgg3 rfl (by with_reducible repeat constructor) rfl) ?_
  refine trw_pure 21 [22,23,24] rfl (by kernel_rfl) rfl (pv_shl rfl rfl (by omega)) ?_
  refine trw_pure 22 [23,24] rfl (by kernel_rfl) rfl (pv_or rfl rfl) (trw_read 23 [24] rfl (by kernel_rfl) rfl (rv_indexAddr_sl runUnderlying30 sizeOf5 rfl rfl (by with_reducible repeat constructor) (by omega) (by omega)) ?_)
  refine trw_one 24 (by kernel_rfl) ?_
  refine trwat_eff0 rfl rfl rfl (ef_store_sl sizeOf5 rfl rfl (by first | rfl | assumption) (by with_reducible repeat constructor) (by simp; omega) (set_bit hm) ?_)
  refine ⟨?_, trivial⟩
  refine trw_nil (tr_keep (ks := []) (.nil) fun base => ?_)
  refine Tr.fold (wp_fold (bs := bs ++ [decide (a % 2 = 1)]) (room := ((rm : Int) - 1)) (l := (bwStep (bw bs) (decide (a % 2 = 1))).1) (n := l.length) (by rw [bw_snoc]; exact Prod.ext rfl (by rw [m7]; dsimp only; omega)) (by omega) (by rw [m7]; simp; omega) rfl) (by with_reducible repeat constructor) ?_
  refine tr_end func71 rfl .nil (by kernel_rfl) .nil () rfl trivial (holds_of_picks (by with_reducible repeat constructor))
theorem wp_bits {r : Nat} {bs : List Bool} {n size : Int} (hl : bs.length + 32 < 1099511627776) : Spec Tryz.prog 26 [.pointer (some ⟨r, 0, none⟩), .int .i64 n, .int .i64 size] [WP r bs]
    (fun _ : Unit => ⟨.tuple #[], True, [WP r (bs ++ bitsOf n size)]⟩) := by
 refine spec_of_tr func26 rfl ntmps26 (by kernel_rfl) ?_
 refine tr_seq (tr_seq (tr_region (tmv rfl (trl_pv (pv_lss rfl rfl) (tmv rfl (trl_split 2 rfl (fun g9 => ?_) (fun g9 => ?_)))))))
 ·refine trl_not rfl (decide_eq_true g9) ?_
  refine trl_not rfl (decide_eq_true g9) ?_
  refine trl_pv (pv_pick_t rfl (decide_eq_true g9) rfl) (trl_nil (tr_then rfl rfl ?_))
  rw [show bitsOf n size = [] from if_pos (by omega), List.append_nil]
  refine tr_ret func26 rfl .nil (by kernel_rfl) .nil () rfl trivial (holds_of_picks (by with_reducible repeat constructor))
 ·refine trl_pvg rfl (decide_eq_false g9) (pv_move rfl) (trl_pvg rfl (decide_eq_false g9) (pv_gtr rfl rfl) (trl_pv (pv_pick_f rfl (decide_eq_false g9) rfl) (trl_nil (tr_if rfl (fun h0 => ?_) (fun h0 => ?_)))))
  ·rw [show bitsOf n size = [] from if_pos (by omega), List.append_nil]
   refine tr_ret func26 rfl .nil (by kernel_rfl) .nil () rfl trivial (holds_of_picks (by with_reducible repeat constructor))
  ·refine tr_skip (tr_seq (tr_region (tmv rfl (trl_pv (pv_subI rfl rfl (by omega) (by omega)) ?_))))
   refine tas rfl (trl_nil ?_)
   obtain ⟨s, rfl⟩ := Int.eq_ofNat_of_zero_le (show 0 ≤ size by omega)
   refine tr_keep (ks := [0,1,6]) (.cons rfl (.cons rfl (.cons rfl .nil))) fun base => ?_
   refine tr_block (tr_while (α := Nat) (s) (fun j => j) (fun j => [(0, .pointer (some ⟨r, 0, none⟩)), (1, .int .i64 n), (6, .int .i64 ((j : Int) - 1))]) (fun j => [pure' (j ≤ s), WP r (bs ++ ((List.range s).reverse.map fun k => decide (n / 2 ^ k % 2 = 1)).take (s - j))]) (ks := [0,1,6]) (.cons rfl (.cons rfl (.cons rfl .nil))) (by simp only [Nat.sub_self, List.take_zero, List.append_nil]; exact holds_pure (Nat.le_refl _) (holds_of_picks (by with_reducible repeat constructor))) ?_)
   intro j base ih0
   refine Tr.pure fun hj => ?_
   refine tr_seq (tr_seq (tr_region (tmv rfl (trl_pv (pv_geq rfl rfl) (trl_nil (tr_if rfl (fun h1 => ?_) (fun h1 => ?_)))))))
   ·refine tr_skip (tr_seq (tr_block (tr_region (tmv rfl (tmv rfl (tmv rfl (trl_pv (pv_shrI rfl rfl (by omega) (by omega)) ?_)))))))
    refine trl_eff (ef_call rfl rfl call71 (wp_bit ?_) (by with_reducible repeat constructor) fun x23 hx23 => ?_)
    ·simp; omega
    dsimp only [List.cons_append, List.nil_append]
    refine trl_nil (tr_keep (ks := [0,1,6]) (.cons rfl (.cons rfl (.cons rfl .nil))) fun base => ?_)
    refine tr_inBlock (tr_region (tmv rfl (trl_pv (pv_subI rfl rfl (by omega) (by omega)) ?_)))
    refine tas rfl (trl_nil ?_)
    obtain ⟨i, rfl⟩ : ∃ i, j = i + 1 := ⟨j - 1, by omega⟩
    refine tr_again ih0 i (by first | omega | (dsimp only; omega)) (.cons rfl (.cons rfl (.cons (keep_int rfl (by omega)) .nil))) (by rw [show (((i + 1 : Nat) : Int) - 1).toNat = i by omega, List.append_assoc, ← bits_rev n s i (by omega)]; exact holds_pure (by omega) (holds_of_picks (by with_reducible repeat constructor)))
   ·refine tr_exit rfl ?_
    obtain rfl : j = 0 := by omega
    rw [show bitsOf n s = _ from if_neg (by omega), Int.toNat_natCast]
    refine tr_end func26 rfl .nil (by kernel_rfl) .nil () rfl trivial (by rw [Nat.sub_zero, List.take_of_length_le (by simp)]; exact holds_of_picks (by with_reducible repeat constructor))
theorem clone_u8 {n : Nat} {v : Value} {cells : List Value} (hn : n < 1099511627776) (ho : ∀ v ∈ cells, one? v = true) : Spec Tryz.prog 31 [v] [Sl 5 1 n v cells]
    (fun v' : Value => ⟨v', one? v' = true, [Sl 5 1 n v' cells, Sl 5 1 n v cells]⟩) := by
 refine spec_of_tr func31 rfl ntmps31 (by kernel_rfl) ?_
 refine tr_slen (by with_reducible repeat constructor) fun hov hcl => ?_
 refine tr_seq (tr_region (tas rfl (trl_nil (tr_seq (tr_seq (tr_region (tmv rfl (trl_val (rv_eq_nil_sl runUnderlying30 rfl rfl (by with_reducible repeat constructor)) ?_))))))))
 refine trl_nil (tr_ifb rfl (fun h0 => ?_) (fun h0 => ?_))
 ·refine tr_seq (tr_region (tas rfl (trl_nil (tr_nilV (by with_reducible repeat constructor) h0 fun e1 e2 e3 => ?_))))
  subst e1; subst e2; subst e3
  refine tr_empty 5 1 none ?_
  refine tr_ret func31 rfl .nil (by kernel_rfl) (.tmp rfl .nil) (.slice none 0 0) rfl rfl (holds_of_picks (by with_reducible repeat constructor))
 ·refine tr_skip (tr_seq (tr_region (trl_eff (ef_buildSlice runUnderlying30 sizeOf5 zeroValue5 rfl rfl rfl rfl rfl (by dsimp only [flatC, cellsL, List.toList_toArray, List.cons_append, List.nil_append, List.append_nil]) fun r5 => ?_))))
  refine tmv rfl (trl_eff (ef_append0 runUnderlying30 runUnderlying30 typeInfo5 sizeOf5 zeroValue5 rfl rfl rfl (reads_sl (by with_reducible repeat constructor)) hcl ho (by rw [show Tryz.t5.bytes = 1 from rfl]; omega) fun v7 ho7 => ?_))
  refine tas rfl (trl_nil (tr_ret func31 rfl .nil (by kernel_rfl) (.tmp rfl .nil) v7 rfl ho7 (holds_of_picks (by with_reducible repeat constructor))))
theorem wp_bytes {r : Nat} {bs : List Bool} (hl : bs.length < 1000000000000) : Spec Tryz.prog 28 [.pointer (some ⟨r, 0, none⟩)] [WP r bs]
    (fun v' : Value => ⟨v', one? v' = true, [WP r bs, Sl 5 1 (pack bs).length v' (u8s (pack bs))]⟩) := by
 refine spec_of_tr func28 rfl ntmps28 (by kernel_rfl) ?_
 have hbl := bw_length bs
 refine Tr.unfold wp_open .here fun v ho => ?_
 dsimp only [List.cons_append, List.nil_append]
 refine tr_seq (tr_region (tas rfl (trl_nil (tr_seq (tr_region (tmv rfl (tnc rfl (trl_pv (pv_fieldAddr runUnderlying148 rfl sizeOf146 rfl rfl) (trl_pv (pv_fieldAddr runUnderlying146 rfl sizeOf30 rfl rfl) (trl_val (rv_load isAgg30 rfl (by with_reducible repeat constructor) rfl) ?_))))))))))
 refine trl_eff (ef_call rfl rfl call31 (clone_u8 (n := (bw bs).1.length) (by omega) one_u8s) (by with_reducible repeat constructor) fun v9 ho9 => ?_)
 dsimp only [List.cons_append, List.nil_append]
 refine tas rfl (trl_nil (tr_keep (ks := [0,3]) (.cons rfl (.cons rfl .nil)) fun base => ?_))
 refine tr_seq (tr_seq (tr_region (tmv rfl (tnc rfl (trl_pv (pv_fieldAddr runUnderlying148 rfl sizeOf146 rfl rfl) (trl_eff (ef_call rfl rfl call72 (row_last (l := (bw bs).1) (by omega)) (by with_reducible repeat constructor) fun x13 hx13 => ?_)))))))
 dsimp only [List.cons_append, List.nil_append]
 refine trl_pv (pv_eql rfl rfl) (trl_nil (tr_if rfl (fun h0 => ?_) (fun h0 => ?_)))
 ·refine tr_region (tmv rfl (trl_eff (ef_buildSlice runUnderlying30 sizeOf5 zeroValue5 rfl rfl rfl rfl rfl (by dsimp only [flatC, cellsL, List.toList_toArray, List.cons_append, List.nil_append, List.append_nil]) fun r16 => ?_)))
  refine trl_eff (ef_append runUnderlying30 runUnderlying30 typeInfo5 sizeOf5 zeroValue5 rfl rfl rfl (by with_reducible repeat constructor) (reads_pt (by with_reducible repeat constructor) rfl) rfl (by simp [one?]) (by rw [show Tryz.t5.bytes = 1 from rfl]; omega) fun v17 ho17 => ?_)
  refine tas rfl (trl_nil (tr_keep (ks := [3]) (.cons rfl .nil) fun base => ?_))
  refine tr_seq (tr_region (tmv rfl (trl_eff (ef_call rfl rfl call31 (clone_u8 (n := (bw bs).1.length + 1) (by omega) (one_snoc (l := (bw bs).1) (x := 0))) (by with_reducible repeat constructor) fun v19 ho19 => ?_))))
  dsimp only [List.cons_append, List.nil_append]
  refine tas rfl (trl_nil ?_)
  refine Tr.fold (wp_fold (bs := bs) (v := v) (l := (bw bs).1) (room := (((bw bs).2 : Nat) : Int)) (n := (bw bs).1.length) (cells := u8s (bw bs).1) rfl (by omega) rfl rfl) (by with_reducible repeat constructor) ?_
  rw [show pack bs = (bw bs).1 ++ [0] from if_pos (last_255 h0)]
  refine tr_ret func28 rfl .nil (by kernel_rfl) (.tmp rfl .nil) v19 rfl ho19 (by simp only [List.length_append, List.length_singleton, u8s_append, u8s_zero]; exact holds_of_picks (by with_reducible repeat constructor))
 ·refine tr_skip (tr_seq (tr_region (tmv rfl (trl_eff (ef_call rfl rfl call31 (clone_u8 (n := (bw bs).1.length) (by omega) one_u8s) (by with_reducible repeat constructor) fun v19 ho19 => ?_)))))
  dsimp only [List.cons_append, List.nil_append]
  refine tas rfl (trl_nil (tr_keep (ks := [2]) (.cons rfl .nil) fun base => ?_))
  refine Tr.fold (wp_fold (bs := bs) (v := v) (l := (bw bs).1) (room := (((bw bs).2 : Nat) : Int)) (n := (bw bs).1.length) (cells := u8s (bw bs).1) rfl (by omega) rfl rfl) (by with_reducible repeat constructor) ?_
  rw [show pack bs = (bw bs).1 from if_neg (last_not h0)]
  refine tr_ret func28 rfl .nil (by kernel_rfl) (.tmp rfl .nil) v19 rfl ho19 (holds_of_picks (by with_reducible repeat constructor))
end Go.Proofs
