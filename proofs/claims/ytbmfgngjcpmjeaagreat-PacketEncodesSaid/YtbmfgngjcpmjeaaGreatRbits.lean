/- Contracts of functions that the law reaches, in every memory (part Rbits). -/
import Derived.Test.YtbmfgngjcpmjeaaGreatBits
set_option linter.unusedVariables false
set_option linter.unusedSimpArgs false
set_option maxRecDepth 10000
namespace Go.Proofs
open Go.Eng Tryz
def WR (r : Nat) (bs : List Bool) : SL := ex fun v => star (pt r 156 [v, .int .i64 (rwCur (bw bs) : Nat), .int .i64 (rwFree (bw bs) : Nat)]) (Sl 5 1 (rwB (bw bs)).length v (u8s (rwB (bw bs))))
theorem wr_open {r : Nat} {bs : List Bool} : Unfold (WR r bs) (fun v => one? v = true) (fun v => [pt r 156 [v, .int .i64 (rwCur (bw bs) : Nat), .int .i64 (rwFree (bw bs) : Nat)], Sl 5 1 (rwB (bw bs)).length v (u8s (rwB (bw bs)))]) := by
  intro F w N h
  obtain ⟨v, h⟩ := Holds.ex.1 h
  have h := Holds.star.1 h
  refine ⟨v, ?_, h⟩
  rcases holds_sl.1 (h.perm (List.Perm.swap _ _ _)) with ⟨_, rfl, _⟩ | ⟨_, _, _, rfl, _⟩ <;> rfl
theorem wr_fold {r n : Nat} {bs : List Bool} {v : Value} {B : List Nat} {cur free : Int} {cells : List Value} (hB : rwB (bw bs) = B) (hc : ((rwCur (bw bs) : Nat) : Int) = cur) (hf : ((rwFree (bw bs) : Nat) : Int) = free)
    (hn : B.length = n) (hcs : u8s B = cells) : Fold [pt r 156 [v, .int .i64 cur, .int .i64 free], Sl 5 1 n v cells] (WR r bs) := by
  intro F w N hw
  refine Holds.ex.2 ⟨v, Holds.star.2 ?_⟩
  subst hn; subst hcs; subst hB; subst hc; subst hf
  exact hw
theorem wr_new : Spec Tryz.prog 32 [] [] (fun r : Nat => ⟨.pointer (some ⟨r, 0, none⟩), True, [WR r []]⟩) := by
 refine spec_of_tr func32 rfl ntmps32 (by kernel_rfl) ?_
 refine tr_seq (tr_region (tas rfl (trl_nil (tr_seq (tr_region (trl_pv (pv_build (pl := [(0, 1), (1, 1), (2, 1)]) runUnderlying156 zeroValue156 (fun w => by simp [sizeOf3, sizeOf30]) (by dsimp only [cellsL, List.toList_toArray]) rfl rfl) ?_))))))
 refine trl_eff (ef_box rfl (by dsimp only [cellsL, List.toList_toArray]) fun r2 => ?_)
 refine tas rfl (trl_nil ?_)
 refine tr_empty 5 1 none ?_
 refine Tr.fold (wr_fold (r := r2) (bs := []) (B := []) (cur := 0) (free := 8) (n := 0) (cells := []) rfl rfl rfl rfl rfl) (by with_reducible repeat constructor) ?_
 refine tr_ret func32 rfl .nil (by kernel_rfl) (.tmp rfl .nil) r2 rfl trivial (holds_of_picks (by with_reducible repeat constructor))
theorem wr_bit {r : Nat} {bs : List Bool} {a : Int} (hl : bs.length < 1000000000000) : Spec Tryz.prog 35 [.pointer (some ⟨r, 0, none⟩), .int .i64 a] [WR r bs]
    (fun _ : Unit => ⟨.tuple #[], True, [WR r (bs ++ [decide (a % 2 = 1)])]⟩) := by
 refine spec_of_tr func35 rfl ntmps35 (by kernel_rfl) ?_
 have hb := rw_ok (bw_ok bs)
 obtain ⟨f1, f2, f3, f4, f5, f6⟩ := hb
 have hbl := bw_length bs
 refine Tr.unfold wr_open .here fun v ho => ?_
 dsimp only [List.cons_append, List.nil_append]
 have hcb := (bit_room f1 f2 f3 f4 (decide (a % 2 = 1))).1
 refine tr_seq (tr_region (tmv rfl (tnc rfl (trl_pv (pv_fieldAddr runUnderlying156 rfl sizeOf3 rfl rfl) (trl_val (rv_load isAgg3 rfl (by with_reducible repeat constructor) rfl) ?_)))))
 refine trl_pv (pv_subI rfl rfl (by omega) (by omega)) ?_
 refine tnc rfl (trl_pv (pv_fieldAddr runUnderlying156 rfl sizeOf3 rfl rfl) (trl_eff0 (ef_store sizeOf3 rfl rfl (by first | rfl | assumption) (by with_reducible repeat constructor) rfl ?_)))
 refine trl_nil (tr_keep (ks := [0,1]) (.cons rfl (.cons rfl .nil)) fun base => ?_)
 refine tr_seq (tr_draww (rem := [0,1,2,3,4,5,6,7,8,9,10,11,12,13,14,15,16]) (by kernel_rfl) (by kernel_rfl) rfl ?_)
 refine twm 0 [14,15,16] rfl (by kernel_rfl) rfl rfl (twm 1 [2,3,4,13,14,15,16] rfl (by kernel_rfl) rfl rfl (twn 2 [3,4,13,14,15,16] rfl (by kernel_rfl) rfl rfl (trw_pure 3 [4,13,14,15,16] rfl (by kernel_rfl) rfl (pv_fieldAddr runUnderlying156 rfl sizeOf3 rfl rfl) (twm 5 [6,12,13,14,15,16] rfl (by kernel_rfl) rfl rfl (trw_pure 6 [12,13,14,15,16] rfl (by kernel_rfl) rfl (pv_and rfl rfl) (twm 7 [8,9,10,11,12,13,14,15,16] rfl (by kernel_rfl) rfl rfl (twn 8 [9,10,11,12,13,14,15,16] rfl (by kernel_rfl) rfl rfl (trw_pure 9 [10,11,12,13,14,15,16] rfl (by kernel_rfl) rfl (pv_fieldAddr runUnderlying156 rfl sizeOf3 rfl rfl) (trw_read 4 [13,14,15,16] rfl (by kernel_rfl) rfl (rv_load isAgg3 rfl (by with_reducible repeat constructor) rfl) ?_)))))))))
 refine trw_read 10 [11,12,13,14,15,16] rfl (by kernel_rfl) rfl (rv_load isAgg3 rfl (by with_reducible repeat constructor) rfl) ?_
 refine trw_pure 11 [12,13,14,15,16] rfl (by kernel_rfl) rfl (pv_convert runUnderlying3 runUnderlying104 rfl) (trw_pure 12 [13,14,15,16] rfl (by kernel_rfl) rfl (pv_shl rfl rfl (by rw [wrapu64_id (by omega) (by omega)]; omega)) ?_)
 refine trw_pure 13 [14,15,16] rfl (by kernel_rfl) rfl (pv_conv (pv_or rfl rfl) (congrArg (Value.int .i64) (or_bit64 f1 f2 f3 f4))) (twn 14 [15,16] rfl (by kernel_rfl) rfl rfl (trw_pure 15 [16] rfl (by kernel_rfl) rfl (pv_fieldAddr runUnderlying156 rfl sizeOf3 rfl rfl) (trw_one 16 (by kernel_rfl) ?_)))
 refine trwat_eff0 rfl rfl rfl (ef_store sizeOf3 rfl rfl (by first | rfl | assumption) (by with_reducible repeat constructor) rfl ?_)
 refine ⟨?_, trivial⟩
 refine trw_nil (tr_keep (ks := [0]) (.cons rfl .nil) fun base => ?_)
 refine tr_seq (tr_region (tmv rfl (tnc rfl (trl_pv (pv_fieldAddr runUnderlying156 rfl sizeOf3 rfl rfl) (trl_val (rv_load isAgg3 rfl (by with_reducible repeat constructor) rfl) ?_)))))
 refine trl_pv (pv_eql rfl rfl) (trl_nil (tr_if rfl (fun h0 => ?_) (fun h0 => ?_)))
 ·refine tr_seq (tr_region (tmv rfl (tnc rfl (trl_pv (pv_fieldAddr runUnderlying156 rfl sizeOf3 rfl rfl) (trl_eff0 (ef_store sizeOf3 rfl rfl (by first | rfl | assumption) (by with_reducible repeat constructor) rfl ?_))))))
  refine trl_nil (tr_keep (ks := [0]) (.cons rfl .nil) fun base => ?_)
  refine tr_seq (tr_seq (tr_region (tmv rfl (tnc rfl (trl_pv (pv_fieldAddr runUnderlying156 rfl sizeOf3 rfl rfl) (trl_val (rv_load isAgg3 rfl (by with_reducible repeat constructor) rfl) ?_))))))
  refine trl_pv (pv_eql rfl rfl) (trl_nil (tr_if rfl (fun h1 => ?_) (fun h1 => ?_)))
  ·refine tr_region (tmv rfl (tnc rfl (trl_pv (pv_fieldAddr runUnderlying156 rfl sizeOf3 rfl rfl) (trl_eff0 (ef_store sizeOf3 rfl rfl (by first | rfl | assumption) (by with_reducible repeat constructor) rfl ?_)))))
   refine trl_nil (tr_keep (ks := [0]) (.cons rfl .nil) fun base => ?_)
   refine tr_seq (tr_draww (rem := [0,1,2,3,4,5,6,7,8,9,10,11,12,13,14]) (by kernel_rfl) (by kernel_rfl) rfl ?_)
   refine twm 0 [12,13,14] rfl (by kernel_rfl) rfl rfl (twm 1 [2,3,4,11,12,13,14] rfl (by kernel_rfl) rfl rfl (twn 2 [3,4,11,12,13,14] rfl (by kernel_rfl) rfl rfl (trw_pure 3 [4,11,12,13,14] rfl (by kernel_rfl) rfl (pv_fieldAddr runUnderlying156 rfl sizeOf30 rfl rfl) (twm 5 [6,7,8,9,10,11,12,13,14] rfl (by kernel_rfl) rfl rfl (twn 6 [7,8,9,10,11,12,13,14] rfl (by kernel_rfl) rfl rfl (trw_pure 7 [8,9,10,11,12,13,14] rfl (by kernel_rfl) rfl (pv_fieldAddr runUnderlying156 rfl sizeOf3 rfl rfl) (trw_read 4 [11,12,13,14] rfl (by kernel_rfl) rfl (rv_load isAgg30 rfl (by with_reducible repeat constructor) rfl) ?_)))))))
   refine trw_read 8 [9,10,11,12,13,14] rfl (by kernel_rfl) rfl (rv_load isAgg3 rfl (by with_reducible repeat constructor) rfl) ?_
   refine trw_pure 9 [10,11,12,13,14] rfl (by kernel_rfl) rfl (pv_conv (pv_convert runUnderlying3 runUnderlying5 rfl) (congrArg (Value.int .u8) (wrapu8_id (by omega) (by omega)))) ?_
   refine trw_one 10 (by kernel_rfl) ?_
   refine trwat_eff rfl rfl rfl (ef_buildSlice runUnderlying30 sizeOf5 zeroValue5 rfl rfl rfl rfl rfl (by dsimp only [flatC, cellsL, List.toList_toArray, List.cons_append, List.nil_append, List.append_nil]) fun r53 => ?_)
   refine ⟨?_, (rv_load isAgg30 rfl (by with_reducible repeat constructor) rfl), trivial⟩
   refine trw_one 11 (by kernel_rfl) ?_
   refine trwat_eff rfl rfl rfl (ef_append runUnderlying30 runUnderlying30 typeInfo5 sizeOf5 zeroValue5 rfl rfl rfl (by with_reducible repeat constructor) (reads_pt (by with_reducible repeat constructor) rfl) rfl (by simp [one?]) (by rw [show Tryz.t5.bytes = 1 from rfl]; omega) fun v54 ho54 => ?_)
   refine ⟨?_, trivial⟩
   refine twn 12 [13,14] rfl (by kernel_rfl) rfl rfl (trw_pure 13 [14] rfl (by kernel_rfl) rfl (pv_fieldAddr runUnderlying156 rfl sizeOf30 rfl rfl) (trw_one 14 (by kernel_rfl) ?_))
   refine trwat_eff0 rfl rfl rfl (ef_store sizeOf30 rfl rfl (by first | rfl | assumption) (by with_reducible repeat constructor) rfl ?_)
   refine ⟨?_, trivial⟩
   refine trw_nil (tr_keep (ks := [0]) (.cons rfl .nil) fun base => ?_)
   refine tr_region (tmv rfl (tnc rfl (trl_pv (pv_fieldAddr runUnderlying156 rfl sizeOf3 rfl rfl) (trl_eff0 (ef_store sizeOf3 rfl rfl (by first | rfl | assumption) (by with_reducible repeat constructor) rfl ?_)))))
   refine trl_nil ?_
   have hs : bw (bs ++ [decide (a % 2 = 1)]) = (rwB (bw bs) ++ [rwCur (bw bs) + cond (decide (a % 2 = 1)) (2 ^ (rwFree (bw bs) - 1)) 0], 0) := by rw [bw_snoc, f6]; exact Prod.ext rfl (by dsimp only; omega)
   refine Tr.fold (wr_fold (bs := bs ++ [decide (a % 2 = 1)]) (B := rwB (bw bs) ++ [rwCur (bw bs) + cond (decide (a % 2 = 1)) (2 ^ (rwFree (bw bs) - 1)) 0]) (cur := 0) (free := 7) (n := (rwB (bw bs)).length + 1) (cells := u8s (rwB (bw bs)) ++ [.int .u8 ((rwCur (bw bs) + cond (decide (a % 2 = 1)) (2 ^ (rwFree (bw bs) - 1)) 0 : Nat) : Int)]) (rw_full hs).1 (by rw [(rw_full hs).2.1]; rfl) (by rw [(rw_full hs).2.2, if_pos (by omega)]; rfl) (by simp) (by simp only [u8s_append, u8s_one])) (by with_reducible repeat constructor) ?_
   refine tr_end func35 rfl .nil (by kernel_rfl) .nil () rfl trivial (holds_of_picks (by with_reducible repeat constructor))
  ·refine tr_skip (tr_seq (tr_draww (rem := [0,1,2,3,4,5,6,7,8,9,10,11,12,13,14]) (by kernel_rfl) (by kernel_rfl) rfl ?_))
   refine twm 0 [12,13,14] rfl (by kernel_rfl) rfl rfl (twm 1 [2,3,4,11,12,13,14] rfl (by kernel_rfl) rfl rfl (twn 2 [3,4,11,12,13,14] rfl (by kernel_rfl) rfl rfl (trw_pure 3 [4,11,12,13,14] rfl (by kernel_rfl) rfl (pv_fieldAddr runUnderlying156 rfl sizeOf30 rfl rfl) (twm 5 [6,7,8,9,10,11,12,13,14] rfl (by kernel_rfl) rfl rfl (twn 6 [7,8,9,10,11,12,13,14] rfl (by kernel_rfl) rfl rfl (trw_pure 7 [8,9,10,11,12,13,14] rfl (by kernel_rfl) rfl (pv_fieldAddr runUnderlying156 rfl sizeOf3 rfl rfl) (trw_read 4 [11,12,13,14] rfl (by kernel_rfl) rfl (rv_load isAgg30 rfl (by with_reducible repeat constructor) rfl) ?_)))))))
   refine trw_read 8 [9,10,11,12,13,14] rfl (by kernel_rfl) rfl (rv_load isAgg3 rfl (by with_reducible repeat constructor) rfl) ?_
   refine trw_pure 9 [10,11,12,13,14] rfl (by kernel_rfl) rfl (pv_conv (pv_convert runUnderlying3 runUnderlying5 rfl) (congrArg (Value.int .u8) (wrapu8_id (by omega) (by omega)))) ?_
   refine trw_one 10 (by kernel_rfl) ?_
   refine trwat_eff rfl rfl rfl (ef_buildSlice runUnderlying30 sizeOf5 zeroValue5 rfl rfl rfl rfl rfl (by dsimp only [flatC, cellsL, List.toList_toArray, List.cons_append, List.nil_append, List.append_nil]) fun r53 => ?_)
   refine ⟨?_, (rv_load isAgg30 rfl (by with_reducible repeat constructor) rfl), trivial⟩
   refine trw_one 11 (by kernel_rfl) ?_
   refine trwat_eff rfl rfl rfl (ef_append runUnderlying30 runUnderlying30 typeInfo5 sizeOf5 zeroValue5 rfl rfl rfl (by with_reducible repeat constructor) (reads_pt (by with_reducible repeat constructor) rfl) rfl (by simp [one?]) (by rw [show Tryz.t5.bytes = 1 from rfl]; omega) fun v54 ho54 => ?_)
   refine ⟨?_, trivial⟩
   refine twn 12 [13,14] rfl (by kernel_rfl) rfl rfl (trw_pure 13 [14] rfl (by kernel_rfl) rfl (pv_fieldAddr runUnderlying156 rfl sizeOf30 rfl rfl) (trw_one 14 (by kernel_rfl) ?_))
   refine trwat_eff0 rfl rfl rfl (ef_store sizeOf30 rfl rfl (by first | rfl | assumption) (by with_reducible repeat constructor) rfl ?_)
   refine ⟨?_, trivial⟩
   refine trw_nil (tr_keep (ks := [0]) (.cons rfl .nil) fun base => ?_)
   refine tr_region (tmv rfl (tnc rfl (trl_pv (pv_fieldAddr runUnderlying156 rfl sizeOf3 rfl rfl) (trl_eff0 (ef_store sizeOf3 rfl rfl (by first | rfl | assumption) (by with_reducible repeat constructor) rfl ?_)))))
   refine trl_nil ?_
   have hs : bw (bs ++ [decide (a % 2 = 1)]) = (rwB (bw bs) ++ [rwCur (bw bs) + cond (decide (a % 2 = 1)) (2 ^ (rwFree (bw bs) - 1)) 0], 0) := by rw [bw_snoc, f6]; exact Prod.ext rfl (by dsimp only; omega)
   refine Tr.fold (wr_fold (bs := bs ++ [decide (a % 2 = 1)]) (B := rwB (bw bs) ++ [rwCur (bw bs) + cond (decide (a % 2 = 1)) (2 ^ (rwFree (bw bs) - 1)) 0]) (cur := 0) (free := 8) (n := (rwB (bw bs)).length + 1) (cells := u8s (rwB (bw bs)) ++ [.int .u8 ((rwCur (bw bs) + cond (decide (a % 2 = 1)) (2 ^ (rwFree (bw bs) - 1)) 0 : Nat) : Int)]) (rw_full hs).1 (by rw [(rw_full hs).2.1]; rfl) (by rw [(rw_full hs).2.2, if_neg (by omega)]; rfl) (by simp) (by simp only [u8s_append, u8s_one])) (by with_reducible repeat constructor) ?_
   refine tr_end func35 rfl .nil (by kernel_rfl) .nil () rfl trivial (holds_of_picks (by with_reducible repeat constructor))
 ·refine tr_skip ?_
  have hs : bw (bs ++ [decide (a % 2 = 1)]) = (rwB (bw bs) ++ [rwCur (bw bs) + cond (decide (a % 2 = 1)) (2 ^ (rwFree (bw bs) - 1)) 0], rwFree (bw bs) - 1) := by rw [bw_snoc, f6]
  have hr := rw_room hs (by omega)
  refine Tr.fold (wr_fold (bs := bs ++ [decide (a % 2 = 1)]) (n := (rwB (bw bs)).length) (cells := u8s (rwB (bw bs))) (cur := ((rwCur (bw bs) + cond (decide (a % 2 = 1)) (2 ^ (rwFree (bw bs) - 1)) 0 : Nat) : Int)) (free := (rwFree (bw bs) : Nat) - 1) hr.1 (by rw [hr.2.1]) (by rw [hr.2.2]; omega) rfl rfl) (by with_reducible repeat constructor) ?_
  refine tr_end func35 rfl .nil (by kernel_rfl) .nil () rfl trivial (holds_of_picks (by with_reducible repeat constructor))
theorem wr_bits {r : Nat} {bs : List Bool} {n size : Int} (hl : bs.length + 32 < 1000000000000) : Spec Tryz.prog 86 [.pointer (some ⟨r, 0, none⟩), .int .i64 n, .int .i64 size] [WR r bs]
    (fun _ : Unit => ⟨.tuple #[], True, [WR r (bs ++ bitsOf n size)]⟩) := by
 refine spec_of_tr func86 rfl ntmps86 (by kernel_rfl) ?_
 refine tr_seq (tr_seq (tr_region (tmv rfl (trl_pv (pv_lss rfl rfl) (tmv rfl (trl_split 2 rfl (fun g9 => ?_) (fun g9 => ?_)))))))
 ·refine trl_not rfl (decide_eq_true g9) ?_
  refine trl_not rfl (decide_eq_true g9) ?_
  refine trl_pv (pv_pick_t rfl (decide_eq_true g9) rfl) (trl_nil (tr_then rfl rfl ?_))
  rw [show bitsOf n size = [] from if_pos (by omega), List.append_nil]
  refine tr_ret func86 rfl .nil (by kernel_rfl) .nil () rfl trivial (holds_of_picks (by with_reducible repeat constructor))
 ·refine trl_pvg rfl (decide_eq_false g9) (pv_move rfl) (trl_pvg rfl (decide_eq_false g9) (pv_gtr rfl rfl) (trl_pv (pv_pick_f rfl (decide_eq_false g9) rfl) (trl_nil (tr_if rfl (fun h0 => ?_) (fun h0 => ?_)))))
  ·rw [show bitsOf n size = [] from if_pos (by omega), List.append_nil]
   refine tr_ret func86 rfl .nil (by kernel_rfl) .nil () rfl trivial (holds_of_picks (by with_reducible repeat constructor))
  ·refine tr_skip (tr_seq (tr_region (tmv rfl (trl_pv (pv_subI rfl rfl (by omega) (by omega)) ?_))))
   refine tas rfl (trl_nil ?_)
   obtain ⟨s, rfl⟩ := Int.eq_ofNat_of_zero_le (show 0 ≤ size by omega)
   refine tr_keep (ks := [0,1,6]) (.cons rfl (.cons rfl (.cons rfl .nil))) fun base => ?_
   refine tr_block (tr_while (α := Nat) (s) (fun j => j) (fun j => [(0, .pointer (some ⟨r, 0, none⟩)), (1, .int .i64 n), (6, .int .i64 ((j : Int) - 1))]) (fun j => [pure' (j ≤ s), WR r (bs ++ ((List.range s).reverse.map fun k => decide (n / 2 ^ k % 2 = 1)).take (s - j))]) (ks := [0,1,6]) (.cons rfl (.cons rfl (.cons rfl .nil))) (by simp only [Nat.sub_self, List.take_zero, List.append_nil]; exact holds_pure (Nat.le_refl _) (holds_of_picks (by with_reducible repeat constructor))) ?_)
   intro j base ih0
   refine Tr.pure fun hj => ?_
   refine tr_seq (tr_seq (tr_region (tmv rfl (trl_pv (pv_geq rfl rfl) (trl_nil (tr_if rfl (fun h1 => ?_) (fun h1 => ?_)))))))
   ·refine tr_skip (tr_seq (tr_block (tr_region (tmv rfl (tmv rfl (tmv rfl (trl_pv (pv_conv (pv_convert runUnderlying3 runUnderlying104 rfl) (congrArg (Value.int .u64) (wrapu64_id (by omega) (by omega)))) ?_)))))))
    refine trl_pv (pv_shrI rfl rfl (by omega) (by omega)) ?_
    refine trl_eff (ef_call rfl rfl call35 (wr_bit ?_) (by with_reducible repeat constructor) fun x24 hx24 => ?_)
    ·simp; omega
    dsimp only [List.cons_append, List.nil_append]
    refine trl_nil (tr_keep (ks := [0,1,6]) (.cons rfl (.cons rfl (.cons rfl .nil))) fun base => ?_)
    refine tr_inBlock (tr_region (tmv rfl (trl_pv (pv_subI rfl rfl (by omega) (by omega)) ?_)))
    refine tas rfl (trl_nil ?_)
    obtain ⟨i, rfl⟩ : ∃ i, j = i + 1 := ⟨j - 1, by omega⟩
    refine tr_again ih0 i (by first | omega | (dsimp only; omega)) (.cons rfl (.cons rfl (.cons (keep_int rfl (by omega)) .nil))) (by rw [show (((i + 1 : Nat) : Int) - 1).toNat = i by omega, List.append_assoc, ← bits_rev n s i (by omega)]; exact holds_pure (by omega) (holds_of_picks (by with_reducible repeat constructor)))
   ·refine tr_exit rfl ?_
    obtain rfl : j = 0 := by omega
    rw [show bitsOf n s = _ from if_neg (by omega), Int.toNat_natCast]
    refine tr_end func86 rfl .nil (by kernel_rfl) .nil () rfl trivial (by rw [Nat.sub_zero, List.take_of_length_le (by simp)]; exact holds_of_picks (by with_reducible repeat constructor))
theorem wr_bytes {r : Nat} {bs : List Bool} (hl : bs.length < 1000000000000) : Spec Tryz.prog 36 [.pointer (some ⟨r, 0, none⟩)] [WR r bs]
    (fun v' : Value => ⟨v', one? v' = true, [WR r bs, Sl 5 1 (pack bs).length v' (u8s (pack bs))]⟩) := by
 refine spec_of_tr func36 rfl ntmps36 (by kernel_rfl) ?_
 have hb := rw_ok (bw_ok bs)
 obtain ⟨f1, f2, f3, f4, f5, f6⟩ := hb
 have hbl := bw_length bs
 refine Tr.unfold wr_open .here fun v ho => ?_
 dsimp only [List.cons_append, List.nil_append]
 refine tr_seq (tr_region (tas rfl (trl_nil (tr_seq (tr_region (trl_eff (ef_buildSlice runUnderlying30 sizeOf5 zeroValue5 rfl rfl rfl rfl rfl (by dsimp only [flatC, cellsL, List.toList_toArray, List.cons_append, List.nil_append, List.append_nil]) fun r5 => ?_)))))))
 refine tmv rfl (tnc rfl (trl_pv (pv_fieldAddr runUnderlying156 rfl sizeOf30 rfl rfl) (trl_val (rv_load isAgg30 rfl (by with_reducible repeat constructor) rfl) ?_)))
 refine trl_eff (ef_append0 runUnderlying30 runUnderlying30 typeInfo5 sizeOf5 zeroValue5 rfl rfl rfl (reads_sl (by with_reducible repeat constructor)) (by simp) one_u8s (by rw [show Tryz.t5.bytes = 1 from rfl]; omega) fun v10 ho10 => ?_)
 refine tas rfl (trl_nil (tr_keep (ks := [0,3]) (.cons rfl (.cons rfl .nil)) fun base => ?_))
 refine tr_seq (tr_region (tas rfl (trl_nil (tr_seq (tr_seq (tr_region (tmv rfl (trl_val (rv_len_sl runUnderlying30 rfl (by with_reducible repeat constructor)) ?_))))))))
 refine trl_pv (pv_gtr rfl rfl) (tmv rfl (trl_split 3 rfl (fun g14 => ?_) (fun g14 => ?_)))
 ·refine trl_pvg rfl (decide_eq_true g14) (pv_move rfl) (trl_pvg rfl (decide_eq_true g14) (pv_move rfl) (trl_valg rfl (decide_eq_true g14) (rv_len_sl runUnderlying30 rfl (by with_reducible repeat constructor)) ?_))
  refine trl_pvg rfl (decide_eq_true g14) (pv_subI rfl rfl (by omega) (by omega)) ?_
  refine trl_valg rfl (decide_eq_true g14) (rv_indexAddr_sl runUnderlying30 sizeOf5 rfl rfl (by with_reducible repeat constructor) (by omega) (by omega)) ?_
  refine trl_valg rfl (decide_eq_true g14) (rv_load_sl isAgg5 rfl (by with_reducible repeat constructor) (u8s_last (by omega))) ?_
  refine trl_pvg rfl (decide_eq_true g14) (pv_eql rfl rfl) (trl_pv (pv_pick_t rfl (decide_eq_true g14) rfl) (trl_nil (tr_keep (ks := [0,3,4,22]) (.cons rfl (.cons rfl (.cons rfl (.cons rfl .nil)))) fun base => ?_)))
  refine tr_join (α := Unit) (fun _ => [(0, .pointer (some ⟨r, 0, none⟩)), (3, v10), (4, .int .i64 ((bwRoom (rwB (bw bs)) : Nat) : Int))]) (fun _ => [pt r 156 [v, .int .i64 (rwCur (bw bs) : Nat), .int .i64 (rwFree (bw bs) : Nat)], Sl 5 1 (rwB (bw bs)).length v (u8s (rwB (bw bs))), Sl 5 1 (rwB (bw bs)).length v10 (u8s (rwB (bw bs)))]) (fun K0 hK0 => ?_) ?_
  ·refine tr_if rfl (fun h0 => ?_) (fun h0 => ?_)
   ·refine tr_region (tas rfl (trl_nil (tr_meet hK0 () (.cons rfl (.cons rfl (.cons (keep_int rfl (by rw [bwRoom_7 h0]; rfl)) .nil))) (holds_of_picks (by with_reducible repeat constructor)))))
   ·refine tr_skip (tr_meet hK0 () (.cons rfl (.cons rfl (.cons (keep_int rfl (by rw [bwRoom_8 h0]; rfl)) .nil))) (holds_of_picks (by with_reducible repeat constructor)))
  ·intro y base
   refine tr_seq (tr_seq (tr_region (tmv rfl (tnc rfl (trl_pv (pv_fieldAddr runUnderlying156 rfl sizeOf3 rfl rfl) (trl_val (rv_load isAgg3 rfl (by with_reducible repeat constructor) rfl) ?_))))))
   refine tmv rfl (trl_pv (pv_lss rfl rfl) (trl_nil ?_))
   refine tr_join (α := Value) (fun b => [(0, .pointer (some ⟨r, 0, none⟩)), (3, b)]) (fun b => [pure' (one? b = true), pt r 156 [v, .int .i64 (rwCur (bw bs) : Nat), .int .i64 (rwFree (bw bs) : Nat)], Sl 5 1 (rwB (bw bs)).length v (u8s (rwB (bw bs))), Sl 5 1 (bw bs).1.length b (u8s (bw bs).1)]) (fun K1 hK1 => ?_) ?_
   ·refine tr_if rfl (fun h1 => ?_) (fun h1 => ?_)
    ·refine tr_region (tmv rfl (tmv rfl (tnc rfl (trl_pv (pv_fieldAddr runUnderlying156 rfl sizeOf3 rfl rfl) (trl_val (rv_load isAgg3 rfl (by with_reducible repeat constructor) rfl) ?_)))))
     refine trl_pv (pv_conv (pv_convert runUnderlying3 runUnderlying5 rfl) (congrArg (Value.int .u8) (wrapu8_id (by omega) (by omega)))) ?_
     refine trl_eff (ef_buildSlice runUnderlying30 sizeOf5 zeroValue5 rfl rfl rfl rfl rfl (by dsimp only [flatC, cellsL, List.toList_toArray, List.cons_append, List.nil_append, List.append_nil]) fun r35 => ?_)
     refine trl_eff (ef_append runUnderlying30 runUnderlying30 typeInfo5 sizeOf5 zeroValue5 rfl rfl rfl (by with_reducible repeat constructor) (reads_pt (by with_reducible repeat constructor) rfl) rfl (by simp [one?]) (by rw [show Tryz.t5.bytes = 1 from rfl]; omega) fun v36 ho36 => ?_)
     refine tas rfl (trl_nil (tr_keep (ks := [0,3]) (.cons rfl (.cons rfl .nil)) fun base => ?_))
     have hw := rw_whole (bw_ok bs)
     rw [if_pos (by omega)] at hw
     refine tr_meet hK1 v36 (.cons rfl (.cons rfl .nil)) (by rw [hw]; simp only [List.length_append, List.length_singleton, u8s_append, u8s_one]; exact holds_pure ho36 (holds_of_picks (by with_reducible repeat constructor)))
    ·refine tr_skip ?_
     have hw := rw_whole (bw_ok bs)
     rw [if_neg (by omega)] at hw
     refine tr_meet hK1 v10 (.cons rfl (.cons rfl .nil)) (by rw [hw]; exact holds_pure ho10 (holds_of_picks (by with_reducible repeat constructor)))
   ·intro b base
    refine Tr.pure fun hob => ?_
    refine tr_seq (tr_seq (tr_region (tmv rfl (trl_val (rv_len_sl runUnderlying30 rfl (by with_reducible repeat constructor)) ?_))))
    refine trl_pv (pv_gtr rfl rfl) (tmv rfl (trl_split 3 rfl (fun g40 => ?_) (fun g40 => ?_)))
    ·refine trl_pvg rfl (decide_eq_true g40) (pv_move rfl) (trl_pvg rfl (decide_eq_true g40) (pv_move rfl) (trl_valg rfl (decide_eq_true g40) (rv_len_sl runUnderlying30 rfl (by with_reducible repeat constructor)) ?_))
     refine trl_pvg rfl (decide_eq_true g40) (pv_subI rfl rfl (by omega) (by omega)) ?_
     refine trl_valg rfl (decide_eq_true g40) (rv_indexAddr_sl runUnderlying30 sizeOf5 rfl rfl (by with_reducible repeat constructor) (by omega) (by omega)) ?_
     refine trl_valg rfl (decide_eq_true g40) (rv_load_sl isAgg5 rfl (by with_reducible repeat constructor) (u8s_last (by omega))) ?_
     refine trl_pvg rfl (decide_eq_true g40) (pv_eql rfl rfl) (trl_pv (pv_pick_t rfl (decide_eq_true g40) rfl) (trl_nil (tr_keep (ks := [3,48]) (.cons rfl (.cons rfl .nil)) fun base => ?_)))
     refine tr_if rfl (fun h2 => ?_) (fun h2 => ?_)
     ·refine tr_region (tmv rfl (trl_eff (ef_buildSlice runUnderlying30 sizeOf5 zeroValue5 rfl rfl rfl rfl rfl (by dsimp only [flatC, cellsL, List.toList_toArray, List.cons_append, List.nil_append, List.append_nil]) fun r50 => ?_)))
      refine trl_eff (ef_append runUnderlying30 runUnderlying30 typeInfo5 sizeOf5 zeroValue5 rfl rfl rfl (by with_reducible repeat constructor) (reads_pt (by with_reducible repeat constructor) rfl) rfl (by simp [one?]) (by rw [show Tryz.t5.bytes = 1 from rfl]; omega) fun v51 ho51 => ?_)
      refine tas rfl (trl_nil (tr_seq (tr_region (tmv rfl (tas rfl (trl_nil ?_))))))
      refine Tr.fold (wr_fold (bs := bs) (v := v) (B := rwB (bw bs)) (cur := ((rwCur (bw bs) : Nat) : Int)) (free := ((rwFree (bw bs) : Nat) : Int)) (n := (rwB (bw bs)).length) (cells := u8s (rwB (bw bs))) rfl rfl rfl rfl rfl) (by with_reducible repeat constructor) ?_
      rw [show pack bs = (bw bs).1 ++ [0] from if_pos (last_255 h2)]
      refine tr_ret func36 rfl .nil (by kernel_rfl) (.tmp rfl .nil) v51 rfl ho51 (by simp only [List.length_append, List.length_singleton, u8s_append, u8s_zero]; exact holds_of_picks (by with_reducible repeat constructor))
     ·refine tr_skip (tr_seq (tr_region (tmv rfl (tas rfl (trl_nil ?_)))))
      refine Tr.fold (wr_fold (bs := bs) (v := v) (B := rwB (bw bs)) (cur := ((rwCur (bw bs) : Nat) : Int)) (free := ((rwFree (bw bs) : Nat) : Int)) (n := (rwB (bw bs)).length) (cells := u8s (rwB (bw bs))) rfl rfl rfl rfl rfl) (by with_reducible repeat constructor) ?_
      rw [show pack bs = (bw bs).1 from if_neg (last_not h2)]
      refine tr_ret func36 rfl .nil (by kernel_rfl) (.tmp rfl .nil) b rfl hob (holds_of_picks (by with_reducible repeat constructor))
    ·refine trl_not rfl (decide_eq_false g40) ?_
     refine trl_not rfl (decide_eq_false g40) ?_
     refine trl_not rfl (decide_eq_false g40) ?_
     refine trl_not rfl (decide_eq_false g40) ?_
     refine trl_not rfl (decide_eq_false g40) ?_
     refine trl_not rfl (decide_eq_false g40) ?_
     refine trl_not rfl (decide_eq_false g40) ?_
     refine trl_pv (pv_pick_f rfl (decide_eq_false g40) rfl) (trl_nil (tr_keep (ks := [3,48]) (.cons rfl (.cons rfl .nil)) fun base => ?_))
     refine tr_else rfl rfl ?_
     refine tr_skip (tr_seq (tr_region (tmv rfl (tas rfl (trl_nil ?_)))))
     refine Tr.fold (wr_fold (bs := bs) (v := v) (B := rwB (bw bs)) (cur := ((rwCur (bw bs) : Nat) : Int)) (free := ((rwFree (bw bs) : Nat) : Int)) (n := (rwB (bw bs)).length) (cells := u8s (rwB (bw bs))) rfl rfl rfl rfl rfl) (by with_reducible repeat constructor) ?_
     have hz : (bw bs).1 = [] := List.eq_nil_of_length_eq_zero (by omega)
     rw [show pack bs = (bw bs).1 from if_neg (by rw [hz]; simp)]
     refine tr_ret func36 rfl .nil (by kernel_rfl) (.tmp rfl .nil) b rfl hob (holds_of_picks (by with_reducible repeat constructor))
 ·refine trl_not rfl (decide_eq_false g14) ?_
  refine trl_not rfl (decide_eq_false g14) ?_
  refine trl_not rfl (decide_eq_false g14) ?_
  refine trl_not rfl (decide_eq_false g14) ?_
  refine trl_not rfl (decide_eq_false g14) ?_
  refine trl_not rfl (decide_eq_false g14) ?_
  refine trl_not rfl (decide_eq_false g14) ?_
  refine trl_pv (pv_pick_f rfl (decide_eq_false g14) rfl) (trl_nil (tr_keep (ks := [0,3,4,22]) (.cons rfl (.cons rfl (.cons rfl (.cons rfl .nil)))) fun base => ?_))
  refine tr_join (α := Unit) (fun _ => [(0, .pointer (some ⟨r, 0, none⟩)), (3, v10), (4, .int .i64 ((bwRoom (rwB (bw bs)) : Nat) : Int))]) (fun _ => [pt r 156 [v, .int .i64 (rwCur (bw bs) : Nat), .int .i64 (rwFree (bw bs) : Nat)], Sl 5 1 (rwB (bw bs)).length v (u8s (rwB (bw bs))), Sl 5 1 (rwB (bw bs)).length v10 (u8s (rwB (bw bs)))]) (fun K0 hK0 => ?_) ?_
  ·refine tr_else rfl rfl ?_
   refine tr_skip ?_
   have hz : rwB (bw bs) = [] := List.eq_nil_of_length_eq_zero (by omega)
   refine tr_meet hK0 () (.cons rfl (.cons rfl (.cons (keep_int rfl (by rw [hz]; rfl)) .nil))) (holds_of_picks (by with_reducible repeat constructor))
  ·intro y base
   refine tr_seq (tr_seq (tr_region (tmv rfl (tnc rfl (trl_pv (pv_fieldAddr runUnderlying156 rfl sizeOf3 rfl rfl) (trl_val (rv_load isAgg3 rfl (by with_reducible repeat constructor) rfl) ?_))))))
   refine tmv rfl (trl_pv (pv_lss rfl rfl) (trl_nil ?_))
   refine tr_join (α := Value) (fun b => [(0, .pointer (some ⟨r, 0, none⟩)), (3, b)]) (fun b => [pure' (one? b = true), pt r 156 [v, .int .i64 (rwCur (bw bs) : Nat), .int .i64 (rwFree (bw bs) : Nat)], Sl 5 1 (rwB (bw bs)).length v (u8s (rwB (bw bs))), Sl 5 1 (bw bs).1.length b (u8s (bw bs).1)]) (fun K1 hK1 => ?_) ?_
   ·refine tr_if rfl (fun h1 => ?_) (fun h1 => ?_)
    ·refine tr_region (tmv rfl (tmv rfl (tnc rfl (trl_pv (pv_fieldAddr runUnderlying156 rfl sizeOf3 rfl rfl) (trl_val (rv_load isAgg3 rfl (by with_reducible repeat constructor) rfl) ?_)))))
     refine trl_pv (pv_conv (pv_convert runUnderlying3 runUnderlying5 rfl) (congrArg (Value.int .u8) (wrapu8_id (by omega) (by omega)))) ?_
     refine trl_eff (ef_buildSlice runUnderlying30 sizeOf5 zeroValue5 rfl rfl rfl rfl rfl (by dsimp only [flatC, cellsL, List.toList_toArray, List.cons_append, List.nil_append, List.append_nil]) fun r35 => ?_)
     refine trl_eff (ef_append runUnderlying30 runUnderlying30 typeInfo5 sizeOf5 zeroValue5 rfl rfl rfl (by with_reducible repeat constructor) (reads_pt (by with_reducible repeat constructor) rfl) rfl (by simp [one?]) (by rw [show Tryz.t5.bytes = 1 from rfl]; omega) fun v36 ho36 => ?_)
     refine tas rfl (trl_nil (tr_keep (ks := [0,3]) (.cons rfl (.cons rfl .nil)) fun base => ?_))
     have hw := rw_whole (bw_ok bs)
     rw [if_pos (by omega)] at hw
     refine tr_meet hK1 v36 (.cons rfl (.cons rfl .nil)) (by rw [hw]; simp only [List.length_append, List.length_singleton, u8s_append, u8s_one]; exact holds_pure ho36 (holds_of_picks (by with_reducible repeat constructor)))
    ·refine tr_skip ?_
     have hw := rw_whole (bw_ok bs)
     rw [if_neg (by omega)] at hw
     refine tr_meet hK1 v10 (.cons rfl (.cons rfl .nil)) (by rw [hw]; exact holds_pure ho10 (holds_of_picks (by with_reducible repeat constructor)))
   ·intro b base
    refine Tr.pure fun hob => ?_
    refine tr_seq (tr_seq (tr_region (tmv rfl (trl_val (rv_len_sl runUnderlying30 rfl (by with_reducible repeat constructor)) ?_))))
    refine trl_pv (pv_gtr rfl rfl) (tmv rfl (trl_split 3 rfl (fun g40 => ?_) (fun g40 => ?_)))
    ·refine trl_pvg rfl (decide_eq_true g40) (pv_move rfl) (trl_pvg rfl (decide_eq_true g40) (pv_move rfl) (trl_valg rfl (decide_eq_true g40) (rv_len_sl runUnderlying30 rfl (by with_reducible repeat constructor)) ?_))
     refine trl_pvg rfl (decide_eq_true g40) (pv_subI rfl rfl (by omega) (by omega)) ?_
     refine trl_valg rfl (decide_eq_true g40) (rv_indexAddr_sl runUnderlying30 sizeOf5 rfl rfl (by with_reducible repeat constructor) (by omega) (by omega)) ?_
     refine trl_valg rfl (decide_eq_true g40) (rv_load_sl isAgg5 rfl (by with_reducible repeat constructor) (u8s_last (by omega))) ?_
     refine trl_pvg rfl (decide_eq_true g40) (pv_eql rfl rfl) (trl_pv (pv_pick_t rfl (decide_eq_true g40) rfl) (trl_nil (tr_keep (ks := [3,48]) (.cons rfl (.cons rfl .nil)) fun base => ?_)))
     refine tr_if rfl (fun h2 => ?_) (fun h2 => ?_)
     ·refine tr_region (tmv rfl (trl_eff (ef_buildSlice runUnderlying30 sizeOf5 zeroValue5 rfl rfl rfl rfl rfl (by dsimp only [flatC, cellsL, List.toList_toArray, List.cons_append, List.nil_append, List.append_nil]) fun r50 => ?_)))
      refine trl_eff (ef_append runUnderlying30 runUnderlying30 typeInfo5 sizeOf5 zeroValue5 rfl rfl rfl (by with_reducible repeat constructor) (reads_pt (by with_reducible repeat constructor) rfl) rfl (by simp [one?]) (by rw [show Tryz.t5.bytes = 1 from rfl]; omega) fun v51 ho51 => ?_)
      refine tas rfl (trl_nil (tr_seq (tr_region (tmv rfl (tas rfl (trl_nil ?_))))))
      refine Tr.fold (wr_fold (bs := bs) (v := v) (B := rwB (bw bs)) (cur := ((rwCur (bw bs) : Nat) : Int)) (free := ((rwFree (bw bs) : Nat) : Int)) (n := (rwB (bw bs)).length) (cells := u8s (rwB (bw bs))) rfl rfl rfl rfl rfl) (by with_reducible repeat constructor) ?_
      rw [show pack bs = (bw bs).1 ++ [0] from if_pos (last_255 h2)]
      refine tr_ret func36 rfl .nil (by kernel_rfl) (.tmp rfl .nil) v51 rfl ho51 (by simp only [List.length_append, List.length_singleton, u8s_append, u8s_zero]; exact holds_of_picks (by with_reducible repeat constructor))
     ·refine tr_skip (tr_seq (tr_region (tmv rfl (tas rfl (trl_nil ?_)))))
      refine Tr.fold (wr_fold (bs := bs) (v := v) (B := rwB (bw bs)) (cur := ((rwCur (bw bs) : Nat) : Int)) (free := ((rwFree (bw bs) : Nat) : Int)) (n := (rwB (bw bs)).length) (cells := u8s (rwB (bw bs))) rfl rfl rfl rfl rfl) (by with_reducible repeat constructor) ?_
      rw [show pack bs = (bw bs).1 from if_neg (last_not h2)]
      refine tr_ret func36 rfl .nil (by kernel_rfl) (.tmp rfl .nil) b rfl hob (holds_of_picks (by with_reducible repeat constructor))
    ·refine trl_not rfl (decide_eq_false g40) ?_
     refine trl_not rfl (decide_eq_false g40) ?_
     refine trl_not rfl (decide_eq_false g40) ?_
     refine trl_not rfl (decide_eq_false g40) ?_
     refine trl_not rfl (decide_eq_false g40) ?_
     refine trl_not rfl (decide_eq_false g40) ?_
     refine trl_not rfl (decide_eq_false g40) ?_
     refine trl_pv (pv_pick_f rfl (decide_eq_false g40) rfl) (trl_nil (tr_keep (ks := [3,48]) (.cons rfl (.cons rfl .nil)) fun base => ?_))
     refine tr_else rfl rfl ?_
     refine tr_skip (tr_seq (tr_region (tmv rfl (tas rfl (trl_nil ?_)))))
     refine Tr.fold (wr_fold (bs := bs) (v := v) (B := rwB (bw bs)) (cur := ((rwCur (bw bs) : Nat) : Int)) (free := ((rwFree (bw bs) : Nat) : Int)) (n := (rwB (bw bs)).length) (cells := u8s (rwB (bw bs))) rfl rfl rfl rfl rfl) (by with_reducible repeat constructor) ?_
     have hz : (bw bs).1 = [] := List.eq_nil_of_length_eq_zero (by omega)
     rw [show pack bs = (bw bs).1 from if_neg (by rw [hz]; simp)]
     refine tr_ret func36 rfl .nil (by kernel_rfl) (.tmp rfl .nil) b rfl hob (holds_of_picks (by with_reducible repeat constructor))
end Go.Proofs
