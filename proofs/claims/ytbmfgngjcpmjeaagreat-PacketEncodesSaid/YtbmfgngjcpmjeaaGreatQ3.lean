/- Contracts of functions that the law reaches, in every memory (part Q3). -/
import Derived.Test.YtbmfgngjcpmjeaaGreatQ2
set_option linter.unusedVariables false
set_option linter.unusedSimpArgs false
set_option maxRecDepth 10000
namespace Go.Proofs
open Go.Eng Tryz
def RW5 (r : Nat) (w : RawW) : SL := exs (fun v : Value => one? v = true) (fun v => [pt r 189 [v, .int .i64 w.cur, .int .i64 w.free, .int .i64 w.top], Sl 5 1 w.b.length v (u8s w.b)])
theorem rw5_open {r : Nat} {w : RawW} : Unfold (RW5 r w) (fun v : Value => one? v = true) (fun v => [pt r 189 [v, .int .i64 w.cur, .int .i64 w.free, .int .i64 w.top], Sl 5 1 w.b.length v (u8s w.b)]) := exs_open
theorem rw5_fold {r n : Nat} {w : RawW} {v : Value} {cur free top : Int} {cs : List Value} (hv : one? v = true) (hc : w.cur = cur) (hf : w.free = free) (ht : w.top = top) (hn : w.b.length = n) (hb : u8s w.b = cs) :
    Fold [pt r 189 [v, .int .i64 cur, .int .i64 free, .int .i64 top], Sl 5 1 n v cs] (RW5 r w) := by
  subst hc; subst hf; subst ht; subst hn; subst hb
  exact fun F w0 N hw => exs_fold (p := fun v : Value => one? v = true) (A := fun v => [pt r 189 [v, .int .i64 w.cur, .int .i64 w.free, .int .i64 w.top], Sl 5 1 w.b.length v (u8s w.b)]) v hv F w0 N hw
theorem u64_nonneg (z : Int) : 0 ≤ IntKind.u64.wrap z := by
  unfold IntKind.wrap
  simp [IntKind.bits, IntKind.signed]
  omega
theorem q_flush {r : Nat} {e : MqE} (hb : 1 ≤ e.b.length) (hl : e.b.length < 900000000000) : Spec Tryz.prog 63 [.pointer (some ⟨r, 0, none⟩)] [ME r e]
    (fun v : Value => ⟨v, one? v = true, [Sl 5 1 (flushB e).length v (u8s (flushB e))]⟩) := by
 refine spec_of_tr func63 rfl ntmps63 (by kernel_rfl) ?_
 refine Tr.unfold me_open .here fun v hv => ?_
 dsimp only [List.cons_append, List.nil_append]
 refine tr_seq (tr_region (tas rfl (trl_nil (tr_seq (tr_draww (rem := [0,1,2,3,4,5,6,7,8,9]) (by kernel_rfl) (by kernel_rfl) rfl ?_)))))
 refine twm 0 [1,2,3,8,9] rfl (by kernel_rfl) rfl rfl (twn 1 [2,3,8,9] rfl (by kernel_rfl) rfl rfl (trw_pure 2 [3,8,9] rfl (by kernel_rfl) rfl (pv_fieldAddr runUnderlying187 rfl sizeOf3 rfl rfl) (twm 4 [5,6,7,8,9] rfl (by kernel_rfl) rfl rfl (twn 5 [6,7,8,9] rfl (by kernel_rfl) rfl rfl (trw_pure 6 [7,8,9] rfl (by kernel_rfl) rfl (pv_fieldAddr runUnderlying187 rfl sizeOf3 rfl rfl) (trw_read 3 [8,9] rfl (by kernel_rfl) rfl (rv_load isAgg3 rfl (by with_reducible repeat constructor) rfl) ?_))))))
 refine trw_read 7 [8,9] rfl (by kernel_rfl) rfl (rv_load isAgg3 rfl (by with_reducible repeat constructor) rfl) ?_
 refine trw_pure 8 [9] rfl (by kernel_rfl) rfl (pv_add rfl rfl) (trw_pure 9 [] rfl (by kernel_rfl) rfl (pv_assign rfl) (trw_nil (tr_keep (ks := [0,3]) (.cons rfl (.cons rfl .nil)) fun base => ?_)))
 refine tr_seq (tr_region (tmv rfl (tmv rfl (tnc rfl (trl_pv (pv_fieldAddr runUnderlying187 rfl sizeOf3 rfl rfl) (trl_val (rv_load isAgg3 rfl (by with_reducible repeat constructor) rfl) ?_))))))
 refine trl_pv (pv_or rfl rfl) (tnc rfl (trl_pv (pv_fieldAddr runUnderlying187 rfl sizeOf3 rfl rfl) (trl_eff0 (ef_store sizeOf3 rfl rfl (by first | rfl | assumption) (by with_reducible repeat constructor) rfl ?_))))
 refine trl_nil (tr_keep (ks := [0,3]) (.cons rfl (.cons rfl .nil)) fun base => ?_)
 refine tr_seq (tr_seq (tr_region (tmv rfl (tnc rfl (trl_pv (pv_fieldAddr runUnderlying187 rfl sizeOf3 rfl rfl) (trl_val (rv_load isAgg3 rfl (by with_reducible repeat constructor) rfl) ?_))))))
 refine tmv rfl (trl_pv (pv_geq rfl rfl) (trl_nil ?_))
 refine tr_join (α := Unit) (fun _ => [(0, .pointer (some ⟨r, 0, none⟩))]) (fun _ => [ME r (flushE1 e)]) (fun K0 hK0 => ?_) ?_
 ·refine tr_if rfl (fun h0 => ?_) (fun h0 => ?_)
  ·refine tr_region (tmv rfl (tmv rfl (tnc rfl (trl_pv (pv_fieldAddr runUnderlying187 rfl sizeOf3 rfl rfl) (trl_val (rv_load isAgg3 rfl (by with_reducible repeat constructor) rfl) ?_)))))
   refine trl_pv (pv_sub rfl rfl) (tnc rfl (trl_pv (pv_fieldAddr runUnderlying187 rfl sizeOf3 rfl rfl) (trl_eff0 (ef_store sizeOf3 rfl rfl (by first | rfl | assumption) (by with_reducible repeat constructor) rfl ?_))))
   refine trl_nil (tr_keep (ks := [0]) (.cons rfl .nil) fun base => ?_)
   have h1 : flushE1 e = { e with c := wI (orI e.c 65535 - 32768) } := if_pos h0
   skip
   refine Tr.fold (me_fold (r := r) (e := flushE1 e) (n := e.b.length) (v := v) (a := e.a) (c := wI (orI e.c 65535 - 32768)) (ct := e.ct) (cs := u8s e.b) hv (by rw [h1]) (by rw [h1]) (by rw [h1]) (by rw [h1]) (by rw [h1])) (by with_reducible repeat constructor) ?_
   refine tr_meet hK0 () (.cons rfl .nil) (holds_of_picks (by with_reducible repeat constructor))
  ·refine tr_skip ?_
   have h1 : flushE1 e = { e with c := orI e.c 65535 } := if_neg h0
   refine Tr.fold (me_fold (r := r) (e := flushE1 e) (n := e.b.length) (v := v) (a := e.a) (c := orI e.c 65535) (ct := e.ct) (cs := u8s e.b) hv (by rw [h1]) (by rw [h1]) (by rw [h1]) (by rw [h1]) (by rw [h1])) (by with_reducible repeat constructor) ?_
   refine tr_meet hK0 () (.cons rfl .nil) (holds_of_picks (by with_reducible repeat constructor))
 ·intro y base
  refine tr_seq (tr_seq (tr_region (tas rfl (trl_nil (tr_block (tr_while (α := Nat × MqE) ((0, flushE1 e)) (fun x => 2 - x.1) (fun x => [(0, .pointer (some ⟨r, 0, none⟩)), (4, .int .i64 (x.1 : Nat))]) (fun x => [pure' (x.1 ≤ 2 ∧ flushE e = (if x.1 = 0 then flushStep (flushStep x.2) else if x.1 = 1 then flushStep x.2 else x.2) ∧ x.2.b.length = e.b.length + x.1), ME r x.2]) (ks := [0,4]) (.cons rfl (.cons rfl .nil)) (holds_pure ⟨by simp, by dsimp only; rw [if_pos rfl, flushE_eq], by dsimp only; rw [flushE1_len]; rfl⟩ (holds_of_picks (by with_reducible repeat constructor))) ?_))))))
  intro ⟨k, e1⟩ base ih0
  refine Tr.pure fun ⟨hk, hF, hbl⟩ => ?_
  dsimp only at hk hF hbl ⊢
  refine tr_seq (tr_seq (tr_region (tmv rfl (trl_pv (pv_lss rfl rfl) (trl_nil (tr_if rfl (fun h1 => ?_) (fun h1 => ?_)))))))
  ·refine tr_skip (tr_seq (tr_block (tr_seq ?_)))
   refine Tr.unfold (me_open (r := r) (e := e1)) (by with_reducible repeat constructor) fun v1 hv1 => ?_
   dsimp only [List.cons_append, List.nil_append]
   refine tr_draww (rem := [0,1,2,3,4,5,6,7,8,9,10,11,12,13]) (by kernel_rfl) (by kernel_rfl) rfl ?_
   refine twm 0 [11,12,13] rfl (by kernel_rfl) rfl rfl (twm 1 [2,3,4,10,11,12,13] rfl (by kernel_rfl) rfl rfl (twn 2 [3,4,10,11,12,13] rfl (by kernel_rfl) rfl rfl (trw_pure 3 [4,10,11,12,13] rfl (by kernel_rfl) rfl (pv_fieldAddr runUnderlying187 rfl sizeOf3 rfl rfl) (twm 5 [6,7,8,9,10,11,12,13] rfl (by kernel_rfl) rfl rfl (twn 6 [7,8,9,10,11,12,13] rfl (by kernel_rfl) rfl rfl (trw_pure 7 [8,9,10,11,12,13] rfl (by kernel_rfl) rfl (pv_fieldAddr runUnderlying187 rfl sizeOf3 rfl rfl) (trw_read 4 [10,11,12,13] rfl (by kernel_rfl) rfl (rv_load isAgg3 rfl (by with_reducible repeat constructor) rfl) ?_)))))))
   refine trw_read 8 [9,10,11,12,13] rfl (by kernel_rfl) rfl (rv_load isAgg3 rfl (by with_reducible repeat constructor) rfl) ?_
   refine trw_pure 9 [10,11,12,13] rfl (by kernel_rfl) rfl (pv_convert runUnderlying3 runUnderlying104 rfl) (trw_pure 10 [11,12,13] rfl (by kernel_rfl) rfl (pv_shl rfl rfl (u64_nonneg _)) (twn 11 [12,13] rfl (by kernel_rfl) rfl rfl (trw_pure 12 [13] rfl (by kernel_rfl) rfl (pv_fieldAddr runUnderlying187 rfl sizeOf3 rfl rfl) (trw_one 13 (by kernel_rfl) ?_))))
   refine trwat_eff0 rfl rfl rfl (ef_store sizeOf3 rfl rfl (by first | rfl | assumption) (by with_reducible repeat constructor) rfl ?_)
   refine ⟨?_, trivial⟩
   refine trw_nil ?_
   refine Tr.fold (me_fold (r := r) (e := { e1 with c := wI (e1.c * 2 ^ min (IntKind.u64.wrap e1.ct).toNat IntKind.i64.bits) }) (n := e1.b.length) (v := v1) (a := e1.a) (c := wI (e1.c * 2 ^ min (IntKind.u64.wrap e1.ct).toNat IntKind.i64.bits)) (ct := e1.ct) (cs := u8s e1.b) hv1 rfl rfl rfl rfl rfl) (by with_reducible repeat constructor) ?_
   refine tr_keep (ks := [0,4]) (.cons rfl (.cons rfl .nil)) fun base => ?_
   refine tr_region (tmv rfl (trl_eff (ef_call rfl rfl call104 (q_out (r := r) (e := { e1 with c := wI (e1.c * 2 ^ min (IntKind.u64.wrap e1.ct).toNat IntKind.i64.bits) }) (by dsimp only; omega) (by dsimp only; omega)) (by with_reducible repeat constructor) fun x55 hx55 => ?_)))
   dsimp only [List.cons_append, List.nil_append]
   refine trl_nil ?_
   rw [show outF { e1 with c := wI (e1.c * 2 ^ min (IntKind.u64.wrap e1.ct).toNat IntKind.i64.bits) } = flushStep e1 from rfl]
   refine tr_inBlock (tr_region (tmv rfl (trl_pv (pv_addI rfl rfl (by omega) (by omega)) ?_)))
   refine tas rfl (trl_nil (tr_again ih0 (k + 1, flushStep e1) (by first | omega | (dsimp only; omega)) (.cons rfl (.cons (keep_int rfl (by dsimp only; omega)) .nil)) (by dsimp only; exact holds_pure ⟨by omega, by rw [hF]; rcases (by omega : k = 0 ∨ k = 1) with rfl | rfl <;> simp, by rw [show (flushStep e1).b.length = e1.b.length + 1 from (outF_len _).1, hbl]; omega⟩ (holds_of_picks (by with_reducible repeat constructor)))))
  ·refine tr_exit rfl (tr_seq ?_)
   obtain rfl : k = 2 := by omega
   rw [if_neg (by decide), if_neg (by decide)] at hF
   have hFB : flushB e = cut255 (e1.b.drop 1) := by unfold flushB; rw [hF]
   refine Tr.unfold (me_open (r := r) (e := e1)) (by with_reducible repeat constructor) fun v1 hv1 => ?_
   dsimp only [List.cons_append, List.nil_append]
   have hdl : (e1.b.drop 1).length = e1.b.length - 1 := by simp
   refine tr_region (trl_eff (ef_buildSlice runUnderlying30 sizeOf5 zeroValue5 rfl rfl rfl rfl rfl (by dsimp only [flatC, cellsL, List.toList_toArray, List.cons_append, List.nil_append, List.append_nil]) fun r56 => ?_))
   refine tmv rfl (tnc rfl (trl_pv (pv_fieldAddr runUnderlying187 rfl sizeOf30 rfl rfl) (trl_val (rv_load isAgg30 rfl (by with_reducible repeat constructor) rfl) ?_)))
   refine trl_val (rv_slice_sl runUnderlying30 sizeOf5 rfl (by with_reducible repeat constructor) rfl rfl (by omega) (by omega) (by omega)) ?_
   refine trl_eff (ef_append0 runUnderlying30 runUnderlying30 typeInfo5 sizeOf5 zeroValue5 rfl rfl rfl (reads_sub (i := 1) (j := e1.b.length) (vs := u8s (e1.b.drop 1)) (by with_reducible repeat constructor) (by omega) (Nat.le_refl _) (by rw [Nat.mul_one, Nat.mul_one]; unfold u8s; rw [← List.map_drop, List.take_of_length_le (by simp)])) (by rw [u8s_length, hdl]; omega) one_u8s (by rw [show Tryz.t5.bytes = 1 from rfl]; omega) fun v62 ho62 => ?_)
   refine tas rfl (trl_nil (tr_keep (ks := [5]) (.cons rfl .nil) fun base => ?_))
   refine tr_seq (tr_seq ?_)
   rw [show e1.b.length - 1 = (e1.b.drop 1).length from hdl.symm]
   refine tr_region (tmv rfl (tmv rfl (trl_val (rv_len_sl runUnderlying30 rfl (by with_reducible repeat constructor)) ?_)))
   refine trl_pv (pv_conv (pv_subI rfl rfl (by omega) (by omega)) (congrArg (Value.int .i64) (show ((e1.b.drop 1).length : Int) - 1 = (((e1.b.drop 1).length - 1 : Nat) : Int) from by omega))) ?_
   refine trl_val (rv_indexAddr_sl runUnderlying30 sizeOf5 rfl rfl (by with_reducible repeat constructor) (by omega) (by omega)) ?_
   refine trl_val (rv_load_sl isAgg5 rfl (by with_reducible repeat constructor) (idx1 (u8s_getD (by omega)))) ?_
   refine trl_pv (pv_eql rfl rfl) (trl_nil (tr_if rfl (fun h2 => ?_) (fun h2 => ?_)))
   ·refine tr_region (tmv rfl (tmv rfl (trl_val (rv_len_sl runUnderlying30 rfl (by with_reducible repeat constructor)) ?_)))
    refine trl_pv (pv_conv (pv_subI rfl rfl (by omega) (by omega)) (congrArg (Value.int .i64) (show ((e1.b.drop 1).length : Int) - 1 = (((e1.b.drop 1).length - 1 : Nat) : Int) from by omega))) ?_
    refine trl_val (rv_slice_sl runUnderlying30 sizeOf5 rfl (by with_reducible repeat constructor) rfl rfl (by omega) (by omega) (by omega)) ?_
    refine tas rfl (trl_nil (tr_keep (ks := [5]) (.cons rfl .nil) fun base => ?_))
    refine tr_seq (tr_region (tmv rfl (tas rfl (trl_nil ?_))))
    have hcb : flushB e = (e1.b.drop 1).take ((e1.b.drop 1).length - 1) := hFB.trans (if_pos h2)
    refine Tr.fold (sl_shrink (e := 5) (sz := 1) (n := (e1.b.drop 1).length) (m := (e1.b.drop 1).length - 1) (v := v62) (cells := u8s (e1.b.drop 1)) (by omega) (by omega)) (by with_reducible repeat constructor) ?_
    refine Tr.fact (p := one? (subV v62 0 ((e1.b.drop 1).length - 1) 1) = true) (fun F w hw => SlV.one (SlV.of (Holds.perm hw (Pick.perm (A := Sl 5 1 ((e1.b.drop 1).length - 1) (subV v62 0 ((e1.b.drop 1).length - 1) 1) ((u8s (e1.b.drop 1)).take (((e1.b.drop 1).length - 1) * 1))) (by with_reducible repeat constructor))))) fun hos => ?_
    refine tr_ret func63 rfl .nil (by kernel_rfl) (.tmp rfl .nil) (subV v62 0 ((e1.b.drop 1).length - 1) 1) rfl hos (by rw [hcb, List.length_take, Nat.min_eq_left (by omega), show u8s ((e1.b.drop 1).take ((e1.b.drop 1).length - 1)) = (u8s (e1.b.drop 1)).take (((e1.b.drop 1).length - 1) * 1) from by rw [Nat.mul_one]; unfold u8s; rw [List.map_take]]; exact holds_of_picks (by with_reducible repeat constructor))
   ·refine tr_skip (tr_seq (tr_region (tmv rfl (tas rfl (trl_nil (tr_keep (ks := [2]) (.cons rfl .nil) fun base => ?_))))))
    have hcb : flushB e = e1.b.drop 1 := hFB.trans (if_neg h2)
    refine tr_ret func63 rfl .nil (by kernel_rfl) (.tmp rfl .nil) v62 rfl ho62 (by rw [hcb]; exact holds_of_picks (by with_reducible repeat constructor))
theorem w_new : Spec Tryz.prog 58 [] [] (fun r : Nat => ⟨.pointer (some ⟨r, 0, none⟩), True, [RW5 r ⟨[], 0, 8, 8⟩]⟩) := by
 refine spec_of_tr func58 rfl ntmps58 (by kernel_rfl) ?_
 refine tr_seq (tr_region (tas rfl (trl_nil (tr_seq (tr_region (trl_pv (pv_build (pl := [(0, 1), (1, 1), (2, 1), (3, 1)]) runUnderlying189 zeroValue189 (fun w => by simp [sizeOf3, sizeOf30]) (by dsimp only [cellsL, List.toList_toArray]) rfl rfl) ?_))))))
 refine trl_eff (ef_box rfl (by dsimp only [cellsL, List.toList_toArray]) fun r2 => ?_)
 refine tas rfl (trl_nil ?_)
 refine tr_empty 5 1 none ?_
 refine Tr.fold (rw5_fold (r := r2) (n := 0) (v := .slice none 0 0) (cur := 0) (free := 8) (top := 8) (cs := []) (w := ⟨[], 0, 8, 8⟩) rfl rfl rfl rfl rfl rfl) (by with_reducible repeat constructor) ?_
 refine tr_ret func58 rfl .nil (by kernel_rfl) (.tmp rfl .nil) r2 rfl trivial (holds_of_picks (by with_reducible repeat constructor))
theorem w_bit {r : Nat} {w : RawW} {bit : Int} (hl : w.b.length < 900000000000) : Spec Tryz.prog 135 [.pointer (some ⟨r, 0, none⟩), .int .i64 bit] [RW5 r w] (fun _ : Unit => ⟨.tuple #[], True, [RW5 r (rawBit w bit)]⟩) := by
 refine spec_of_tr func135 rfl ntmps135 (by kernel_rfl) ?_
 refine Tr.unfold rw5_open .here fun v hv => ?_
 dsimp only [List.cons_append, List.nil_append]
 refine tr_seq (tr_region (tmv rfl (tnc rfl (trl_pv (pv_fieldAddr runUnderlying189 rfl sizeOf3 rfl rfl) (trl_val (rv_load isAgg3 rfl (by with_reducible repeat constructor) rfl) ?_)))))
 refine trl_pv (pv_sub rfl rfl) (tnc rfl (trl_pv (pv_fieldAddr runUnderlying189 rfl sizeOf3 rfl rfl) (trl_eff0 (ef_store sizeOf3 rfl rfl (by first | rfl | assumption) (by with_reducible repeat constructor) rfl ?_))))
 refine trl_nil (tr_keep (ks := [0,1]) (.cons rfl (.cons rfl .nil)) fun base => ?_)
 refine tr_seq (tr_draww (rem := [0,1,2,3,4,5,6,7,8,9,10,11,12,13,14,15,16]) (by kernel_rfl) (by kernel_rfl) rfl ?_)
 refine twm 0 [14,15,16] rfl (by kernel_rfl) rfl rfl (twm 1 [2,3,4,13,14,15,16] rfl (by kernel_rfl) rfl rfl (twn 2 [3,4,13,14,15,16] rfl (by kernel_rfl) rfl rfl (trw_pure 3 [4,13,14,15,16] rfl (by kernel_rfl) rfl (pv_fieldAddr runUnderlying189 rfl sizeOf3 rfl rfl) (twm 5 [6,12,13,14,15,16] rfl (by kernel_rfl) rfl rfl (trw_pure 6 [12,13,14,15,16] rfl (by kernel_rfl) rfl (pv_and rfl rfl) (twm 7 [8,9,10,11,12,13,14,15,16] rfl (by kernel_rfl) rfl rfl (twn 8 [9,10,11,12,13,14,15,16] rfl (by kernel_rfl) rfl rfl (trw_pure 9 [10,11,12,13,14,15,16] rfl (by kernel_rfl) rfl (pv_fieldAddr runUnderlying189 rfl sizeOf3 rfl rfl) (trw_read 4 [13,14,15,16] rfl (by kernel_rfl) rfl (rv_load isAgg3 rfl (by with_reducible repeat constructor) rfl) ?_)))))))))
 refine trw_read 10 [11,12,13,14,15,16] rfl (by kernel_rfl) rfl (rv_load isAgg3 rfl (by with_reducible repeat constructor) rfl) ?_
 refine trw_pure 11 [12,13,14,15,16] rfl (by kernel_rfl) rfl (pv_convert runUnderlying3 runUnderlying104 rfl) (trw_pure 12 [13,14,15,16] rfl (by kernel_rfl) rfl (pv_shl rfl rfl (u64_nonneg _)) (trw_pure 13 [14,15,16] rfl (by kernel_rfl) rfl (pv_or rfl rfl) (twn 14 [15,16] rfl (by kernel_rfl) rfl rfl (trw_pure 15 [16] rfl (by kernel_rfl) rfl (pv_fieldAddr runUnderlying189 rfl sizeOf3 rfl rfl) (trw_one 16 (by kernel_rfl) ?_)))))
 refine trwat_eff0 rfl rfl rfl (ef_store sizeOf3 rfl rfl (by first | rfl | assumption) (by with_reducible repeat constructor) rfl ?_)
 refine ⟨?_, trivial⟩
 refine trw_nil (tr_keep (ks := [0]) (.cons rfl .nil) fun base => ?_)
 refine tr_seq (tr_seq (tr_region (tmv rfl (tnc rfl (trl_pv (pv_fieldAddr runUnderlying189 rfl sizeOf3 rfl rfl) (trl_val (rv_load isAgg3 rfl (by with_reducible repeat constructor) rfl) ?_))))))
 refine trl_pv (pv_gtr rfl rfl) (trl_nil (tr_if rfl (fun h0 => ?_) (fun h0 => ?_)))
 ·have h9 : rawBit w bit = { w with cur := (orI w.cur (wI (andI bit 1 * 2 ^ min (IntKind.u64.wrap (wI (w.free - 1))).toNat IntKind.i64.bits))), free := wI (w.free - 1) } := if_pos h0
  refine Tr.fold (rw5_fold (r := r) (w := rawBit w bit) (n := w.b.length) (v := v) (cur := (orI w.cur (wI (andI bit 1 * 2 ^ min (IntKind.u64.wrap (wI (w.free - 1))).toNat IntKind.i64.bits)))) (free := wI (w.free - 1)) (top := w.top) (cs := u8s w.b) hv (by rw [h9]) (by rw [h9]) (by rw [h9]) (by rw [h9]) (by rw [h9])) (by with_reducible repeat constructor) ?_
  refine tr_ret func135 rfl .nil (by kernel_rfl) .nil () rfl trivial (holds_of_picks (by with_reducible repeat constructor))
 ·refine tr_skip (tr_seq (tr_draww (rem := [0,1,2,3,4,5,6,7,8,9,10,11,12,13,14]) (by kernel_rfl) (by kernel_rfl) rfl ?_))
  refine twm 0 [12,13,14] rfl (by kernel_rfl) rfl rfl (twm 1 [2,3,4,11,12,13,14] rfl (by kernel_rfl) rfl rfl (twn 2 [3,4,11,12,13,14] rfl (by kernel_rfl) rfl rfl (trw_pure 3 [4,11,12,13,14] rfl (by kernel_rfl) rfl (pv_fieldAddr runUnderlying189 rfl sizeOf30 rfl rfl) (twm 5 [6,7,8,9,10,11,12,13,14] rfl (by kernel_rfl) rfl rfl (twn 6 [7,8,9,10,11,12,13,14] rfl (by kernel_rfl) rfl rfl (trw_pure 7 [8,9,10,11,12,13,14] rfl (by kernel_rfl) rfl (pv_fieldAddr runUnderlying189 rfl sizeOf3 rfl rfl) (trw_read 4 [11,12,13,14] rfl (by kernel_rfl) rfl (rv_load isAgg30 rfl (by with_reducible repeat constructor) rfl) ?_)))))))
  refine trw_read 8 [9,10,11,12,13,14] rfl (by kernel_rfl) rfl (rv_load isAgg3 rfl (by with_reducible repeat constructor) rfl) ?_
  refine trw_pure 9 [10,11,12,13,14] rfl (by kernel_rfl) rfl (pv_conv (pv_convert runUnderlying3 runUnderlying5 rfl) (congrArg (Value.int .u8) (byteQ_eq ((orI w.cur (wI (andI bit 1 * 2 ^ min (IntKind.u64.wrap (wI (w.free - 1))).toNat IntKind.i64.bits))))).symm)) (trw_one 10 (by kernel_rfl) ?_)
  refine trwat_eff rfl rfl rfl (ef_buildSlice runUnderlying30 sizeOf5 zeroValue5 rfl rfl rfl rfl rfl (by dsimp only [flatC, cellsL, List.toList_toArray, List.cons_append, List.nil_append, List.append_nil]) fun r42 => ?_)
  refine ⟨?_, (rv_load isAgg30 rfl (by with_reducible repeat constructor) rfl), trivial⟩
  refine trw_one 11 (by kernel_rfl) ?_
  refine trwat_eff rfl rfl rfl (ef_append runUnderlying30 runUnderlying30 typeInfo5 sizeOf5 zeroValue5 rfl rfl rfl (by with_reducible repeat constructor) (reads_pt (by with_reducible repeat constructor) rfl) rfl (by simp [one?]) (by rw [show Tryz.t5.bytes = 1 from rfl]; omega) fun v43 ho43 => ?_)
  refine ⟨?_, trivial⟩
  refine twn 12 [13,14] rfl (by kernel_rfl) rfl rfl (trw_pure 13 [14] rfl (by kernel_rfl) rfl (pv_fieldAddr runUnderlying189 rfl sizeOf30 rfl rfl) (trw_one 14 (by kernel_rfl) ?_))
  refine trwat_eff0 rfl rfl rfl (ef_store sizeOf30 rfl rfl (by first | rfl | assumption) (by with_reducible repeat constructor) rfl ?_)
  refine ⟨?_, trivial⟩
  refine trw_nil (tr_keep (ks := [0]) (.cons rfl .nil) fun base => ?_)
  refine tr_seq (tr_region (tmv rfl (tmv rfl (tnc rfl (trl_pv (pv_fieldAddr runUnderlying189 rfl sizeOf3 rfl rfl) (trl_eff0 (ef_store sizeOf3 rfl rfl (by first | rfl | assumption) (by with_reducible repeat constructor) rfl ?_)))))))
  refine tnc rfl (trl_pv (pv_fieldAddr runUnderlying189 rfl sizeOf3 rfl rfl) (trl_eff0 (ef_store sizeOf3 rfl rfl (by first | rfl | assumption) (by with_reducible repeat constructor) rfl ?_)))
  refine trl_nil (tr_seq (tr_seq (tr_region (tmv rfl (tnc rfl (trl_pv (pv_fieldAddr runUnderlying189 rfl sizeOf3 rfl rfl) (trl_val (rv_load isAgg3 rfl (by with_reducible repeat constructor) rfl) ?_)))))))
  refine trl_pv (pv_eql rfl rfl) (trl_nil (tr_keep (ks := [0,56]) (.cons rfl (.cons rfl .nil)) fun base => ?_))
  refine tr_if rfl (fun h1 => ?_) (fun h1 => ?_)
  ·refine tr_region (tmv rfl (tmv rfl (tnc rfl (trl_pv (pv_fieldAddr runUnderlying189 rfl sizeOf3 rfl rfl) (trl_eff0 (ef_store sizeOf3 rfl rfl (by first | rfl | assumption) (by with_reducible repeat constructor) rfl ?_))))))
   refine tnc rfl (trl_pv (pv_fieldAddr runUnderlying189 rfl sizeOf3 rfl rfl) (trl_eff0 (ef_store sizeOf3 rfl rfl (by first | rfl | assumption) (by with_reducible repeat constructor) rfl ?_)))
   refine trl_nil (tr_keep (ks := [0]) (.cons rfl .nil) fun base => ?_)
   refine tr_region (tmv rfl (tnc rfl (trl_pv (pv_fieldAddr runUnderlying189 rfl sizeOf3 rfl rfl) (trl_eff0 (ef_store sizeOf3 rfl rfl (by first | rfl | assumption) (by with_reducible repeat constructor) rfl ?_)))))
   refine trl_nil ?_
   have h9 : rawBit w bit = ⟨w.b ++ [byteQ (orI w.cur (wI (andI bit 1 * 2 ^ min (IntKind.u64.wrap (wI (w.free - 1))).toNat IntKind.i64.bits)))], 0, 7, 7⟩ := (if_neg h0).trans (if_pos h1)
   refine Tr.fold (rw5_fold (r := r) (w := rawBit w bit) (n := w.b.length + 1) (v := v43) (cur := 0) (free := 7) (top := 7) (cs := u8s w.b ++ [.int .u8 ((byteQ (orI w.cur (wI (andI bit 1 * 2 ^ min (IntKind.u64.wrap (wI (w.free - 1))).toNat IntKind.i64.bits))) : Nat) : Int)]) ho43 (by rw [h9]) (by rw [h9]) (by rw [h9]) (by rw [h9]; simp) (by rw [h9]; simp only [u8s_append, u8s_one])) (by with_reducible repeat constructor) ?_
   refine tr_end func135 rfl .nil (by kernel_rfl) .nil () rfl trivial (holds_of_picks (by with_reducible repeat constructor))
  ·refine tr_skip (tr_region (tmv rfl (tnc rfl (trl_pv (pv_fieldAddr runUnderlying189 rfl sizeOf3 rfl rfl) (trl_eff0 (ef_store sizeOf3 rfl rfl (by first | rfl | assumption) (by with_reducible repeat constructor) rfl ?_))))))
   refine trl_nil ?_
   have h9 : rawBit w bit = ⟨w.b ++ [byteQ (orI w.cur (wI (andI bit 1 * 2 ^ min (IntKind.u64.wrap (wI (w.free - 1))).toNat IntKind.i64.bits)))], 0, 8, 8⟩ := (if_neg h0).trans (if_neg h1)
   refine Tr.fold (rw5_fold (r := r) (w := rawBit w bit) (n := w.b.length + 1) (v := v43) (cur := 0) (free := 8) (top := 8) (cs := u8s w.b ++ [.int .u8 ((byteQ (orI w.cur (wI (andI bit 1 * 2 ^ min (IntKind.u64.wrap (wI (w.free - 1))).toNat IntKind.i64.bits))) : Nat) : Int)]) ho43 (by rw [h9]) (by rw [h9]) (by rw [h9]) (by rw [h9]; simp) (by rw [h9]; simp only [u8s_append, u8s_one])) (by with_reducible repeat constructor) ?_
   refine tr_end func135 rfl .nil (by kernel_rfl) .nil () rfl trivial (holds_of_picks (by with_reducible repeat constructor))
theorem w_out {r : Nat} {w : RawW} (hl : w.b.length < 900000000000) : Spec Tryz.prog 61 [.pointer (some ⟨r, 0, none⟩)] [RW5 r w] (fun _ : Unit => ⟨.int .i64 (rawOut w), True, [RW5 r w]⟩) := by
 refine spec_of_tr func61 rfl ntmps61 (by kernel_rfl) ?_
 refine Tr.unfold rw5_open .here fun v hv => ?_
 dsimp only [List.cons_append, List.nil_append]
 refine tr_seq (tr_region (tas rfl (trl_nil (tr_seq (tr_seq (tr_draww (rem := [0,1,2,3,4,5,6,7,8]) (by kernel_rfl) (by kernel_rfl) rfl ?_))))))
 refine twm 0 [1,2,3,8] rfl (by kernel_rfl) rfl rfl (twn 1 [2,3,8] rfl (by kernel_rfl) rfl rfl (trw_pure 2 [3,8] rfl (by kernel_rfl) rfl (pv_fieldAddr runUnderlying189 rfl sizeOf3 rfl rfl) (twm 4 [5,6,7,8] rfl (by kernel_rfl) rfl rfl (twn 5 [6,7,8] rfl (by kernel_rfl) rfl rfl (trw_pure 6 [7,8] rfl (by kernel_rfl) rfl (pv_fieldAddr runUnderlying189 rfl sizeOf3 rfl rfl) (trw_read 3 [8] rfl (by kernel_rfl) rfl (rv_load isAgg3 rfl (by with_reducible repeat constructor) rfl) ?_))))))
 refine trw_read 7 [8] rfl (by kernel_rfl) rfl (rv_load isAgg3 rfl (by with_reducible repeat constructor) rfl) ?_
 refine trw_pure 8 [] rfl (by kernel_rfl) rfl (pv_lss rfl rfl) (trw_nil (tr_keep (ks := [0,11]) (.cons rfl (.cons rfl .nil)) fun base => ?_))
 refine tr_if rfl (fun h0 => ?_) (fun h0 => ?_)
 ·refine tr_seq (tr_region (tmv rfl (tnc rfl (trl_pv (pv_fieldAddr runUnderlying189 rfl sizeOf30 rfl rfl) (trl_val (rv_load isAgg30 rfl (by with_reducible repeat constructor) rfl) ?_)))))
  refine trl_val (rv_len_sl runUnderlying30 rfl (by with_reducible repeat constructor)) ?_
  refine trl_pv (pv_addI rfl rfl (by omega) (by omega)) ?_
  refine tas rfl (trl_nil (tr_keep (ks := [2]) (.cons rfl .nil) fun base => ?_))
  refine Tr.fold (rw5_fold (w := w) hv rfl rfl rfl rfl rfl) (by with_reducible repeat constructor) ?_
  refine tr_ret func61 rfl .nil (by kernel_rfl) (.tmp rfl .nil) () (by rw [show rawOut w = (w.b.length : Int) + 1 from if_pos h0]; rfl) trivial (holds_of_picks (by with_reducible repeat constructor))
 ·refine tr_skip (tr_seq (tr_region (tmv rfl (tnc rfl (trl_pv (pv_fieldAddr runUnderlying189 rfl sizeOf30 rfl rfl) (trl_val (rv_load isAgg30 rfl (by with_reducible repeat constructor) rfl) ?_))))))
  refine trl_val (rv_len_sl runUnderlying30 rfl (by with_reducible repeat constructor)) ?_
  refine tas rfl (trl_nil (tr_keep (ks := [2]) (.cons rfl .nil) fun base => ?_))
  refine Tr.fold (rw5_fold (w := w) hv rfl rfl rfl rfl rfl) (by with_reducible repeat constructor) ?_
  refine tr_ret func61 rfl .nil (by kernel_rfl) (.tmp rfl .nil) () (by rw [show rawOut w = (w.b.length : Int) from if_neg h0]; rfl) trivial (holds_of_picks (by with_reducible repeat constructor))
theorem w_flush {r : Nat} {w : RawW} (hl : w.b.length < 900000000000) : Spec Tryz.prog 64 [.pointer (some ⟨r, 0, none⟩)] [RW5 r w]
    (fun v : Value => ⟨v, one? v = true, [Sl 5 1 (rawFlush w).length v (u8s (rawFlush w))]⟩) := by
 refine spec_of_tr func64 rfl ntmps64 (by kernel_rfl) ?_
 refine Tr.unfold rw5_open .here fun v hv => ?_
 dsimp only [List.cons_append, List.nil_append]
 refine tr_seq (tr_region (tas rfl (trl_nil (tr_seq (tr_region (trl_eff (ef_buildSlice runUnderlying30 sizeOf5 zeroValue5 rfl rfl rfl rfl rfl (by dsimp only [flatC, cellsL, List.toList_toArray, List.cons_append, List.nil_append, List.append_nil]) fun r4 => ?_)))))))
 refine tmv rfl (tnc rfl (trl_pv (pv_fieldAddr runUnderlying189 rfl sizeOf30 rfl rfl) (trl_val (rv_load isAgg30 rfl (by with_reducible repeat constructor) rfl) ?_)))
 refine trl_eff (ef_append0 runUnderlying30 runUnderlying30 typeInfo5 sizeOf5 zeroValue5 rfl rfl rfl (reads_sl (by with_reducible repeat constructor)) (by simp) one_u8s (by rw [show Tryz.t5.bytes = 1 from rfl]; omega) fun v9 ho9 => ?_)
 refine tas rfl (trl_nil (tr_keep (ks := [0,3]) (.cons rfl (.cons rfl .nil)) fun base => ?_))
 refine tr_seq (tr_seq (tr_draww (rem := [0,1,2,3,4,5,6,7,8]) (by kernel_rfl) (by kernel_rfl) rfl ?_))
 refine twm 0 [1,2,3,8] rfl (by kernel_rfl) rfl rfl (twn 1 [2,3,8] rfl (by kernel_rfl) rfl rfl (trw_pure 2 [3,8] rfl (by kernel_rfl) rfl (pv_fieldAddr runUnderlying189 rfl sizeOf3 rfl rfl) (twm 4 [5,6,7,8] rfl (by kernel_rfl) rfl rfl (twn 5 [6,7,8] rfl (by kernel_rfl) rfl rfl (trw_pure 6 [7,8] rfl (by kernel_rfl) rfl (pv_fieldAddr runUnderlying189 rfl sizeOf3 rfl rfl) (trw_read 3 [8] rfl (by kernel_rfl) rfl (rv_load isAgg3 rfl (by with_reducible repeat constructor) rfl) ?_))))))
 refine trw_read 7 [8] rfl (by kernel_rfl) rfl (rv_load isAgg3 rfl (by with_reducible repeat constructor) rfl) ?_
 refine trw_pure 8 [] rfl (by kernel_rfl) rfl (pv_lss rfl rfl) (trw_nil (tr_keep (ks := [0,3,18]) (.cons rfl (.cons rfl (.cons rfl .nil))) fun base => ?_))
 refine tr_join (α := Value) (fun x => [(3, x)]) (fun x => [pure' (one? x = true), Sl 5 1 (rawFull w).length x (u8s (rawFull w))]) (fun K0 hK0 => ?_) ?_
 ·refine tr_if rfl (fun h0 => ?_) (fun h0 => ?_)
  ·refine tr_region (tmv rfl (tmv rfl (tnc rfl (trl_pv (pv_fieldAddr runUnderlying189 rfl sizeOf3 rfl rfl) (trl_val (rv_load isAgg3 rfl (by with_reducible repeat constructor) rfl) ?_)))))
   refine trl_pv (pv_conv (pv_convert runUnderlying3 runUnderlying5 rfl) (congrArg (Value.int .u8) (byteQ_eq (w.cur)).symm)) (trl_eff (ef_buildSlice runUnderlying30 sizeOf5 zeroValue5 rfl rfl rfl rfl rfl (by dsimp only [flatC, cellsL, List.toList_toArray, List.cons_append, List.nil_append, List.append_nil]) fun r25 => ?_))
   refine trl_eff (ef_append runUnderlying30 runUnderlying30 typeInfo5 sizeOf5 zeroValue5 rfl rfl rfl (by with_reducible repeat constructor) (reads_pt (by with_reducible repeat constructor) rfl) rfl (by simp [one?]) (by rw [show Tryz.t5.bytes = 1 from rfl]; omega) fun v26 ho26 => ?_)
   refine tas rfl (trl_nil (tr_keep (ks := [3]) (.cons rfl .nil) fun base => ?_))
   have h9 : rawFull w = w.b ++ [byteQ w.cur] := if_pos h0
   refine tr_meet hK0 v26 (.cons rfl .nil) (by rw [h9]; simp only [List.length_append, List.length_singleton, u8s_append, u8s_one]; exact holds_pure ho26 (holds_of_picks (by with_reducible repeat constructor)))
  ·refine tr_skip ?_
   have h9 : rawFull w = w.b := if_neg h0
   refine tr_meet hK0 v9 (.cons rfl .nil) (by rw [h9]; exact holds_pure ho9 (holds_of_picks (by with_reducible repeat constructor)))
 ·intro x base
  refine Tr.pure fun hx => ?_
  have hfl := rawFull_len2 w
  refine tr_seq (tr_seq (tr_region (tmv rfl (trl_val (rv_len_sl runUnderlying30 rfl (by with_reducible repeat constructor)) ?_))))
  refine trl_pv (pv_gtr rfl rfl) (tmv rfl (trl_split 3 rfl (fun g30 => ?_) (fun g30 => ?_)))
  ·refine trl_pvg rfl (decide_eq_true g30) (pv_move rfl) (trl_pvg rfl (decide_eq_true g30) (pv_move rfl) (trl_valg rfl (decide_eq_true g30) (rv_len_sl runUnderlying30 rfl (by with_reducible repeat constructor)) ?_))
   refine trl_pvg rfl (decide_eq_true g30) (pv_conv (pv_subI rfl rfl (by omega) (by omega)) (congrArg (Value.int .i64) (show ((rawFull w).length : Int) - 1 = (((rawFull w).length - 1 : Nat) : Int) from by omega))) ?_
   refine trl_valg rfl (decide_eq_true g30) (rv_indexAddr_sl runUnderlying30 sizeOf5 rfl rfl (by with_reducible repeat constructor) (by omega) (by omega)) ?_
   refine trl_valg rfl (decide_eq_true g30) (rv_load_sl isAgg5 rfl (by with_reducible repeat constructor) (idx1 (u8s_getD (by omega)))) ?_
   refine trl_pvg rfl (decide_eq_true g30) (pv_eql rfl rfl) (trl_pv (pv_pick_t rfl (decide_eq_true g30) rfl) (trl_nil (tr_keep (ks := [3,38]) (.cons rfl (.cons rfl .nil)) fun base => ?_)))
   refine tr_if rfl (fun h1 => ?_) (fun h1 => ?_)
   ·refine tr_region (tmv rfl (tmv rfl (trl_val (rv_len_sl runUnderlying30 rfl (by with_reducible repeat constructor)) ?_)))
    refine trl_pv (pv_conv (pv_subI rfl rfl (by omega) (by omega)) (congrArg (Value.int .i64) (show ((rawFull w).length : Int) - 1 = (((rawFull w).length - 1 : Nat) : Int) from by omega))) ?_
    refine trl_val (rv_slice_sl runUnderlying30 sizeOf5 rfl (by with_reducible repeat constructor) rfl rfl (by omega) (by omega) (by omega)) ?_
    refine tas rfl (trl_nil (tr_seq (tr_region (tmv rfl (tas rfl (trl_nil (tr_keep (ks := [2]) (.cons rfl .nil) fun base => ?_)))))))
    have hcb : rawFlush w = (rawFull w).take ((rawFull w).length - 1) := (if_pos (show 0 < (rawFull w).length by omega)).trans (if_pos h1)
    refine Tr.fold (sl_shrink (e := 5) (sz := 1) (n := (rawFull w).length) (m := (rawFull w).length - 1) (v := x) (cells := u8s (rawFull w)) (by omega) (by omega)) (by with_reducible repeat constructor) ?_
    refine Tr.fact (p := one? (subV x 0 ((rawFull w).length - 1) 1) = true) (fun F w0 hw => SlV.one (SlV.of (Holds.perm hw (Pick.perm (A := Sl 5 1 ((rawFull w).length - 1) (subV x 0 ((rawFull w).length - 1) 1) ((u8s (rawFull w)).take (((rawFull w).length - 1) * 1))) (by with_reducible repeat constructor))))) fun hos => ?_
    refine tr_ret func64 rfl .nil (by kernel_rfl) (.tmp rfl .nil) (subV x 0 ((rawFull w).length - 1) 1) rfl hos (by rw [hcb, List.length_take, Nat.min_eq_left (by omega), show u8s ((rawFull w).take ((rawFull w).length - 1)) = (u8s (rawFull w)).take (((rawFull w).length - 1) * 1) from by rw [Nat.mul_one]; unfold u8s; rw [List.map_take]]; exact holds_of_picks (by with_reducible repeat constructor))
   ·refine tr_skip (tr_seq (tr_region (tmv rfl (tas rfl (trl_nil ?_)))))
    have hcb : rawFlush w = (rawFull w) := (if_pos (show 0 < (rawFull w).length by omega)).trans (if_neg h1)
    refine tr_ret func64 rfl .nil (by kernel_rfl) (.tmp rfl .nil) x rfl hx (by rw [hcb]; exact holds_of_picks (by with_reducible repeat constructor))
  ·refine trl_not rfl (decide_eq_false g30) ?_
   refine trl_not rfl (decide_eq_false g30) ?_
   refine trl_not rfl (decide_eq_false g30) ?_
   refine trl_not rfl (decide_eq_false g30) ?_
   refine trl_not rfl (decide_eq_false g30) ?_
   refine trl_not rfl (decide_eq_false g30) ?_
   refine trl_not rfl (decide_eq_false g30) ?_
   refine trl_pv (pv_pick_f rfl (decide_eq_false g30) rfl) (trl_nil (tr_keep (ks := [3,38]) (.cons rfl (.cons rfl .nil)) fun base => ?_))
   refine tr_else rfl rfl ?_
   refine tr_skip (tr_seq (tr_region (tmv rfl (tas rfl (trl_nil ?_)))))
   have hcb : rawFlush w = (rawFull w) := if_neg (show ¬ 0 < (rawFull w).length by omega)
   refine tr_ret func64 rfl .nil (by kernel_rfl) (.tmp rfl .nil) x rfl hx (by rw [hcb]; exact holds_of_picks (by with_reducible repeat constructor))
theorem c_at {w h n : Nat} (hw : w ≤ 64) (hh : h ≤ 64) (hn : n < w * h) : Spec Tryz.prog 120 [.int .i64 (w : Nat), .int .i64 (h : Nat), .int .i64 (n : Nat)] []
    (fun _ : Unit => ⟨.tuple #[.int .i64 (scanX w h n : Nat), .int .i64 (scanY w h n : Nat)], True, []⟩) := by
 refine spec_of_tr func120 rfl ntmps120 (by kernel_rfl) ?_
 have hm : w * h ≤ 64 * 64 := Nat.mul_le_mul hw hh
 have hw0 : 0 < w := Nat.pos_of_ne_zero (fun h0 => by subst h0; simp at hn)
 have hq : n / w < h := Nat.div_lt_of_lt_mul hn
 have hle : 4 * w * (n / w / 4) ≤ n := scan_le n w
 have hmod := Nat.mod_lt (n - 4 * w * (n / w / 4)) (show 0 < min 4 (h - 4 * (n / w / 4)) by omega)
 refine tr_seq (tr_region (tas rfl (tas rfl (trl_nil (tr_seq (tr_seq (tr_region (tmv rfl (trl_pv (pv_lss rfl rfl) (tmv rfl (trl_pvg rfl (decide_eq_false (by omega)) (pv_move rfl) ?_)))))))))))
 refine trl_pvg rfl (decide_eq_false (by omega)) (pv_lss rfl rfl) ?_
 refine trl_pv (pv_pick_f rfl (decide_eq_false (by omega)) rfl) ?_
 refine tmv rfl (trl_pvg rfl (decide_eq_false (by omega)) (pv_move rfl) ?_)
 refine trl_pvg rfl (decide_eq_false (by omega)) (pv_lss rfl rfl) ?_
 refine trl_pv (pv_pick_f rfl (decide_eq_false (by omega)) rfl) ?_
 refine tmv rfl (trl_pvg rfl (decide_eq_false (by omega)) (pv_move rfl) ?_)
 refine trl_pvg rfl (decide_eq_false (by omega)) (pv_move rfl) ?_
 refine trl_pvg rfl (decide_eq_false (by omega)) (pv_conv (pv_quoI rfl rfl (by omega) (by omega) (by omega)) (congrArg (Value.int .i64) (show (n : Int) / (w : Int) = ((n / w : Nat) : Int) from by simp))) ?_
 refine trl_pvg rfl (decide_eq_false (by omega)) (pv_move rfl) ?_
 refine trl_pvg rfl (decide_eq_false (by omega)) (pv_geq rfl rfl) ?_
 refine trl_pv (pv_pick_f rfl (decide_eq_false (by omega)) rfl) ?_
 refine trl_nil (tr_keep (ks := [0,1,2,27]) (.cons rfl (.cons rfl (.cons rfl (.cons rfl .nil)))) fun base => ?_)
 refine tr_else rfl (decide_eq_false (by omega)) ?_
 refine tr_skip (tr_seq (tr_region (tmv rfl (tmv rfl (trl_pv (pv_conv (pv_quoI rfl rfl (by omega) (by omega) (by omega)) (congrArg (Value.int .i64) (show (n : Int) / (w : Int) = ((n / w : Nat) : Int) from by simp))) ?_)))))
 refine trl_pv (pv_conv (pv_quoI rfl rfl (by omega) (by omega) (by omega)) (congrArg (Value.int .i64) (show ((n / w : Nat) : Int) / 4 = ((n / w / 4 : Nat) : Int) from by simp))) ?_
 refine tas rfl (trl_nil (tr_seq (tr_region (tmv rfl (tmv rfl (trl_pv (pv_conv (pv_mulI rfl rfl (by omega) (by omega)) (congrArg (Value.int .i64) (show 4 * (w : Int) = ((4 * w : Nat) : Int) from by omega))) ?_))))))
 refine tmv rfl (trl_pv (pv_conv (pv_mulI rfl rfl (by omega) (by omega)) (congrArg (Value.int .i64) (show ((4 * w : Nat) : Int) * ((n / w / 4 : Nat) : Int) = ((4 * w * (n / w / 4) : Nat) : Int) from by simp))) ?_)
 refine trl_pv (pv_conv (pv_subI rfl rfl (by omega) (by omega)) (congrArg (Value.int .i64) (show (n : Int) - ((4 * w * (n / w / 4) : Nat) : Int) = ((n - 4 * w * (n / w / 4) : Nat) : Int) from by omega))) ?_
 refine tas rfl (trl_nil (tr_keep (ks := [1,8,9]) (.cons rfl (.cons rfl (.cons rfl .nil))) fun base => ?_))
 refine tr_seq (tr_region (tmv rfl (tmv rfl (trl_pv (pv_conv (pv_mulI rfl rfl (by omega) (by omega)) (congrArg (Value.int .i64) (show 4 * ((n / w / 4 : Nat) : Int) = ((4 * (n / w / 4) : Nat) : Int) from by omega))) ?_))))
 refine trl_pv (pv_conv (pv_subI rfl rfl (by omega) (by omega)) (congrArg (Value.int .i64) (show (h : Int) - ((4 * (n / w / 4) : Nat) : Int) = ((h - 4 * (n / w / 4) : Nat) : Int) from by omega))) ?_
 refine trl_pv (pv_conv (pv_minI rfl rfl) (congrArg (Value.int .i64) (show min 4 ((h - 4 * (n / w / 4) : Nat) : Int) = ((min 4 (h - 4 * (n / w / 4)) : Nat) : Int) from by omega))) (tas rfl (trl_nil (tr_seq (tr_draww (rem := [0,1,2,3,4,5,6,7,8,9,10]) (by kernel_rfl) (by kernel_rfl) rfl ?_))))
 refine twm 0 [2,9,10] rfl (by kernel_rfl) rfl rfl (twm 1 [2,9,10] rfl (by kernel_rfl) rfl rfl (trw_pure 2 [9,10] rfl (by kernel_rfl) rfl (pv_conv (pv_quoI rfl rfl (by omega) (by omega) (by omega)) (congrArg (Value.int .i64) (show ((n - 4 * w * (n / w / 4) : Nat) : Int) / ((min 4 (h - 4 * (n / w / 4)) : Nat) : Int) = ((scanX w h n : Nat) : Int) from by unfold scanX; simp))) ?_))
 refine twm 3 [4,8,10] rfl (by kernel_rfl) rfl rfl (trw_pure 4 [8,10] rfl (by kernel_rfl) rfl (pv_conv (pv_mulI rfl rfl (by omega) (by omega)) (congrArg (Value.int .i64) (show 4 * ((n / w / 4 : Nat) : Int) = ((4 * (n / w / 4) : Nat) : Int) from by omega))) ?_)
 refine twm 5 [7,8,10] rfl (by kernel_rfl) rfl rfl (twm 6 [7,8,10] rfl (by kernel_rfl) rfl rfl (trw_pure 7 [8,10] rfl (by kernel_rfl) rfl (pv_conv (pv_remI rfl rfl (by omega) (by omega)) (congrArg (Value.int .i64) (show ((n - 4 * w * (n / w / 4) : Nat) : Int) % ((min 4 (h - 4 * (n / w / 4)) : Nat) : Int) = (((n - 4 * w * (n / w / 4)) % min 4 (h - 4 * (n / w / 4)) : Nat) : Int) from by simp))) ?_))
 refine trw_pure 8 [10] rfl (by kernel_rfl) rfl (pv_conv (pv_addI rfl rfl (by omega) (by omega)) (congrArg (Value.int .i64) (show ((4 * (n / w / 4) : Nat) : Int) + (((n - 4 * w * (n / w / 4)) % min 4 (h - 4 * (n / w / 4)) : Nat) : Int) = ((scanY w h n : Nat) : Int) from by unfold scanY; omega))) ?_
 refine trw_pure 9 [10] rfl (by kernel_rfl) rfl (pv_assign rfl) (trw_pure 10 [] rfl (by kernel_rfl) rfl (pv_assign rfl) (trw_nil (tr_keep (ks := [6,7]) (.cons rfl (.cons rfl .nil)) fun base => ?_)))
 refine tr_ret func120 rfl .nil (by kernel_rfl) (.tmp rfl (.tmp rfl .nil)) () rfl trivial (holds_of_picks (by with_reducible repeat constructor))
theorem x_refine {b : Bool} {n : Int} : Spec Tryz.prog 125 [.bool b, .int .i64 n] [] (fun _ : Unit => ⟨.int .i64 (refineK b n), True, []⟩) := by
 refine spec_of_tr func125 rfl ntmps125 (by kernel_rfl) ?_
 refine tr_seq (tr_region (tas rfl (trl_nil (tr_seq (tr_block (tr_seq (tr_region (tmv rfl (trl_pv (pv_not rfl) (tas rfl (trl_nil (tr_ifb rfl (fun h0 => ?_) (fun h0 => ?_)))))))))))))
 ·refine tr_seq (tr_region (tas rfl (trl_nil (tr_ret func125 rfl .nil (by kernel_rfl) (.tmp rfl .nil) () (by rw [show refineK b n = 16 from if_pos (by simpa using h0)]; rfl) trivial (holds_of_picks (by with_reducible repeat constructor))))))
 ·refine tr_seq (tr_region (tmv rfl (trl_pv (pv_gtr rfl rfl) (tas rfl (trl_nil (tr_keep (ks := [8]) (.cons rfl .nil) fun base => ?_))))))
  refine tr_if rfl (fun h1 => ?_) (fun h1 => ?_)
  ·refine tr_seq (tr_region (tas rfl (trl_nil (tr_ret func125 rfl .nil (by kernel_rfl) (.tmp rfl .nil) () (by rw [show refineK b n = 15 from (if_neg (by simpa using h0)).trans (if_pos h1)]; rfl) trivial (holds_of_picks (by with_reducible repeat constructor))))))
  ·refine tr_skip (tr_inBlock (tr_seq (tr_region (tas rfl (trl_nil (tr_ret func125 rfl .nil (by kernel_rfl) (.tmp rfl .nil) () (by rw [show refineK b n = 14 from (if_neg (by simpa using h0)).trans (if_neg h1)]; rfl) trivial (holds_of_picks (by with_reducible repeat constructor))))))))
end Go.Proofs
