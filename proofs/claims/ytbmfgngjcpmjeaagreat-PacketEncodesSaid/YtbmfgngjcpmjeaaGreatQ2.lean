/- Contracts of functions that the law reaches, in every memory (part Q2). -/
import Derived.Test.YtbmfgngjcpmjeaaGreatQ1
set_option linter.unusedVariables false
set_option linter.unusedSimpArgs false
set_option maxRecDepth 10000
namespace Go.Proofs
open Go.Eng Tryz
def encO (o : Int × Int) : List Value := [.int .i64 o.1, .int .i64 o.2]
theorem encO_len (o : Int × Int) : (encO o).length = 2 := rfl
def cxC (cx : Cxs) : List Value := cx.flatMap encO
theorem cxC_length (cx : Cxs) : (cxC cx).length = cx.length * 2 := flat_length encO_len cx
theorem cx_get {P Q : List Value} {oc k j : Nat} {cx : Cxs} (hP : P.length = oc) (hk : k < cx.length) {u : Value} (hu : (encO (cx.getD k (0, 0)))[j]? = some u) : (P ++ cxC cx ++ Q)[oc + k * 2 + j]? = some u := by
  have hx : cx[k]? = some (cx.getD k (0, 0)) := by rw [List.getD_eq_getElem?_getD, List.getElem?_eq_getElem hk]; rfl
  have h := flat_get encO_len hx hu
  have hl := (List.getElem?_eq_some_iff.1 h).1
  rw [List.append_assoc, List.getElem?_append_right (by omega), List.getElem?_append_left (by unfold cxC; omega)]
  rw [show oc + k * 2 + j - P.length = k * 2 + j by omega]
  exact h
theorem cx_set {P Q : List Value} {oc k j : Nat} {cx : Cxs} {o' : Int × Int} (hP : P.length = oc) (hk : k < cx.length) (hj : j < 2) {u : Value} (hu : (encO (cx.getD k (0, 0))).set j u = encO o') : (P ++ cxC cx ++ Q).set (oc + k * 2 + j) u = P ++ cxC (cx.set k o') ++ Q := by
  have hx : cx[k]? = some (cx.getD k (0, 0)) := by rw [List.getD_eq_getElem?_getD, List.getElem?_eq_getElem hk]; rfl
  have h := flat_set encO_len hx hj hu
  have hl := cxC_length cx
  rw [List.append_assoc, List.set_append_right _ _ (by omega), List.set_append_left _ _ (by omega), show oc + k * 2 + j - P.length = k * 2 + j by omega]
  unfold cxC at *
  rw [h, List.append_assoc]
theorem partCx_length (k : Nat) : (partCx k).length = 19 := by simp [partCx]
theorem partCx_set {k : Nat} (hk : k < 19) : (cxC (partCx k)).set (0 + ((k : Nat) : Int).toNat * 2 + 0) (.int .i64 (beginF (k : Int))) = cxC (partCx (k + 1)) := by
  have h0 : (partCx k)[k]? = some ((0 : Int), (0 : Int)) := by simp [partCx, hk]
  have h := flat_set encO_len (o := 0) (x' := (beginF (k : Int), (0 : Int))) (u := .int .i64 (beginF (k : Int))) h0 (by decide) rfl
  have e : (partCx k).set k (beginF (k : Int), 0) = partCx (k + 1) := by
    apply List.ext_getElem?
    intro i
    by_cases hi : k = i
    · subst hi
      rw [List.getElem?_set_self (by rw [partCx_length]; exact hk)]
      simp [partCx, hk]
    · rw [List.getElem?_set_ne hi]
      by_cases h19 : i < 19
      · simp only [partCx, List.getElem?_map, List.getElem?_range h19, Option.map_some]
        congr 1
        by_cases h1 : i < k
        · rw [if_pos h1, if_pos (by omega)]
        · rw [if_neg h1, if_neg (by omega)]
      · rw [List.getElem?_eq_none (by rw [partCx_length]; omega), List.getElem?_eq_none (by rw [partCx_length]; omega)]
  rw [e] at h
  unfold cxC
  rw [← h]
  congr 1
  omega
def ME (r : Nat) (e : MqE) : SL := exs (fun v : Value => one? v = true) (fun v => [pt r 187 [.int .i64 e.a, .int .i64 e.c, .int .i64 e.ct, v], Sl 5 1 e.b.length v (u8s e.b)])
theorem me_open {r : Nat} {e : MqE} : Unfold (ME r e) (fun v : Value => one? v = true) (fun v => [pt r 187 [.int .i64 e.a, .int .i64 e.c, .int .i64 e.ct, v], Sl 5 1 e.b.length v (u8s e.b)]) := exs_open
theorem me_fold {r n : Nat} {e : MqE} {v : Value} {a c ct : Int} {cs : List Value} (hv : one? v = true) (ha : e.a = a) (hc : e.c = c) (ht : e.ct = ct) (hn : e.b.length = n) (hb : u8s e.b = cs) :
    Fold [pt r 187 [.int .i64 a, .int .i64 c, .int .i64 ct, v], Sl 5 1 n v cs] (ME r e) := by
  subst ha; subst hc; subst ht; subst hn; subst hb
  exact fun F w N hw => exs_fold (p := fun v : Value => one? v = true) (A := fun v => [pt r 187 [.int .i64 e.a, .int .i64 e.c, .int .i64 e.ct, v], Sl 5 1 e.b.length v (u8s e.b)]) v hv F w N hw
theorem q_fresh : Spec Tryz.prog 99 [] [] (fun _ : Unit => ⟨.agg (cxC freshCx).toArray, True, []⟩) := by
 refine spec_of_tr func99 rfl ntmps99 (by kernel_rfl) ?_
 refine tr_seq (tr_region (trl_eff (ef_alloc zeroValue127 (by dsimp only [cellsL, List.toList_toArray]) fun r0 => ?_)))
 refine trl_nil (tr_seq (tr_region (trl_pv (pv_build_a0 runUnderlying127 sizeOf125 zeroValue127 rfl (by dsimp only [cellsL, List.toList_toArray])) ?_)))
 refine trl_eff (ef_alloc zeroValue127 (by dsimp only [cellsL, List.toList_toArray]) fun r1 => ?_)
 refine trl_eff0 (ef_store_agg (vs := cxC (partCx 0)) (cs' := cxC (partCx 0)) sizeOf127 rfl rfl (by kernel_rfl) (by with_reducible repeat constructor) (by kernel_rfl) ?_)
 refine trl_nil ?_
 rw [show pt r0 127 [.int .i64 0, .int .i64 0, .int .i64 0, .int .i64 0, .int .i64 0, .int .i64 0, .int .i64 0, .int .i64 0, .int .i64 0, .int .i64 0, .int .i64 0, .int .i64 0, .int .i64 0, .int .i64 0, .int .i64 0, .int .i64 0, .int .i64 0, .int .i64 0, .int .i64 0, .int .i64 0, .int .i64 0, .int .i64 0, .int .i64 0, .int .i64 0, .int .i64 0, .int .i64 0, .int .i64 0, .int .i64 0, .int .i64 0, .int .i64 0, .int .i64 0, .int .i64 0, .int .i64 0, .int .i64 0, .int .i64 0, .int .i64 0, .int .i64 0, .int .i64 0] = pt r0 127 (cxC (partCx 0)) from rfl]
 refine tr_seq (tr_seq (tr_region (tas rfl (trl_nil (tr_block (tr_while (α := Nat) (0) (fun k => 19 - k) (fun k => [(0, .pointer (some ⟨r0, 0, none⟩)), (1, .pointer (some ⟨r1, 0, none⟩)), (2, .int .i64 (k : Nat))]) (fun k => [pure' (k ≤ 19), pt r0 127 (cxC (partCx 0)), pt r1 127 (cxC (partCx k))]) (ks := [0,1,2]) (.cons rfl (.cons rfl (.cons rfl .nil))) (holds_pure (Nat.zero_le _) (holds_of_picks (by with_reducible repeat constructor))) ?_))))))
 intro k base ih0
 refine Tr.pure fun hk => ?_
 refine tr_seq (tr_seq (tr_region (tmv rfl (trl_pv (pv_lss rfl rfl) (trl_nil (tr_if rfl (fun h0 => ?_) (fun h0 => ?_)))))))
 ·refine tr_skip (tr_seq (tr_block (tr_region (tmv rfl (tmv rfl (trl_eff (ef_call rfl rfl call119 (s_begin (k := (k : Int))) (by with_reducible repeat constructor) fun x10 hx10 => ?_)))))))
  dsimp only [List.cons_append, List.nil_append]
  refine trl_pv (pv_indexAddr_a runUnderlying127 sizeOf125 rfl rfl (by omega) (by omega)) ?_
  refine trl_pv (pv_fieldAddr runUnderlying125 rfl sizeOf3 rfl rfl) (trl_eff0 (ef_store_set sizeOf3 rfl rfl rfl (by with_reducible repeat constructor) (by rw [cxC_length, partCx_length]; simp; omega) (partCx_set (k := k) (by omega)) ?_))
  refine trl_nil (tr_keep (ks := [0,1,2]) (.cons rfl (.cons rfl (.cons rfl .nil))) fun base => ?_)
  refine tr_inBlock (tr_region (tmv rfl (trl_pv (pv_addI rfl rfl (by omega) (by omega)) ?_)))
  refine tas rfl (trl_nil (tr_again ih0 (k + 1) (by first | omega | (dsimp only; omega)) (.cons rfl (.cons rfl (.cons (keep_int rfl (by omega)) .nil))) (holds_pure (by omega) (holds_of_picks (by with_reducible repeat constructor)))))
 ·refine tr_exit rfl (tr_seq ?_)
  obtain rfl : k = 19 := by omega
  rw [show partCx 19 = freshCx from rfl]
  refine tr_region (trl_val (rv_load_agg (vs := cxC freshCx) isAgg127 sizeOf127 rfl (by with_reducible repeat constructor) (by kernel_rfl)) ?_)
  refine trl_eff0 (ef_store_agg (vs := cxC freshCx) (cs' := cxC freshCx) sizeOf127 rfl rfl (by kernel_rfl) (by with_reducible repeat constructor) (by kernel_rfl) ?_)
  refine trl_nil (tr_ret func99 rfl .nil (by kernel_rfl) (.cell rfl (loadVar_agg isAgg127 sizeOf127 (by with_reducible repeat constructor) (by kernel_rfl)) .nil) () rfl trivial (holds_of_picks (by with_reducible repeat constructor)))
theorem q_new : Spec Tryz.prog 57 [] [] (fun r : Nat => ⟨.pointer (some ⟨r, 0, none⟩), True, [ME r ⟨32768, 0, 12, [0]⟩]⟩) := by
 refine spec_of_tr func57 rfl ntmps57 (by kernel_rfl) ?_
 refine tr_seq (tr_region (tas rfl (trl_nil (tr_seq (tr_region (trl_eff (ef_buildSlice runUnderlying30 sizeOf5 zeroValue5 rfl rfl rfl rfl rfl (by dsimp only [flatC, cellsL, List.toList_toArray, List.cons_append, List.nil_append, List.append_nil]) fun r1 => ?_)))))))
 refine trl_pv (pv_build (pl := [(0, 1), (1, 1), (2, 1), (3, 1)]) runUnderlying187 zeroValue187 (fun w => by simp [sizeOf3, sizeOf30]) (by dsimp only [cellsL, List.toList_toArray]) rfl rfl) ?_
 refine trl_eff (ef_box rfl (by dsimp only [cellsL, List.toList_toArray]) fun r3 => ?_)
 refine tas rfl (trl_nil ?_)
 refine Tr.fold (sl_of_pt (e := 5) (p := r1) (cells := [.int .u8 0]) (n := 1) (sz := 1) rfl) (by with_reducible repeat constructor) ?_
 refine Tr.fold (me_fold (r := r3) (n := 1) (v := .slice (some ⟨r1, 0, none⟩) 1 1) (a := 32768) (c := 0) (ct := 12) (cs := [.int .u8 0]) (e := ⟨32768, 0, 12, [0]⟩) rfl rfl rfl rfl rfl rfl) (by with_reducible repeat constructor) ?_
 refine tr_ret func57 rfl .nil (by kernel_rfl) (.tmp rfl .nil) r3 rfl trivial (holds_of_picks (by with_reducible repeat constructor))
theorem q_out {r : Nat} {e : MqE} (hb : 1 ≤ e.b.length) (hl : e.b.length < 1000000000000) : Spec Tryz.prog 104 [.pointer (some ⟨r, 0, none⟩)] [ME r e] (fun _ : Unit => ⟨.tuple #[], True, [ME r (outF e)]⟩) := by
 refine spec_of_tr func104 rfl ntmps104 (by kernel_rfl) ?_
 refine Tr.unfold me_open .here fun v hv => ?_
 dsimp only [List.cons_append, List.nil_append]
 refine tr_seq (tr_region (tmv rfl (tnc rfl (trl_pv (pv_fieldAddr runUnderlying187 rfl sizeOf30 rfl rfl) (trl_val (rv_load isAgg30 rfl (by with_reducible repeat constructor) rfl) ?_)))))
 refine trl_val (rv_len_sl runUnderlying30 rfl (by with_reducible repeat constructor)) ?_
 refine trl_pv (pv_conv (pv_subI rfl rfl (by omega) (by omega)) (congrArg (Value.int .i64) (show (e.b.length : Int) - 1 = ((e.b.length - 1 : Nat) : Int) from by omega))) ?_
 refine tas rfl (trl_nil (tr_seq (tr_seq (tr_region (tmv rfl (tnc rfl (trl_pv (pv_fieldAddr runUnderlying187 rfl sizeOf30 rfl rfl) (trl_val (rv_load isAgg30 rfl (by with_reducible repeat constructor) rfl) ?_))))))))
 refine tmv rfl (trl_val (rv_indexAddr_sl runUnderlying30 sizeOf5 rfl rfl (by with_reducible repeat constructor) (by omega) (by omega)) ?_)
 refine trl_val (rv_load_sl isAgg5 rfl (by with_reducible repeat constructor) (idx1 (u8s_getD (show e.b.length - 1 < e.b.length by omega)))) ?_
 refine trl_pv (pv_neq rfl rfl) (tmv rfl (trl_split 8 rfl (fun g17 => ?_) (fun g17 => ?_)))
 ·refine trl_pvg rfl (decide_eq_true g17) (pv_move rfl) (trl_pvg rfl (decide_eq_true g17) (pv_nilCheck rfl) (trl_pvg rfl (decide_eq_true g17) (pv_fieldAddr runUnderlying187 rfl sizeOf3 rfl rfl) (trl_valg rfl (decide_eq_true g17) (rv_load isAgg3 rfl (by with_reducible repeat constructor) rfl) ?_)))
  refine trl_pvg rfl (decide_eq_true g17) (pv_geq rfl rfl) (trl_pv (pv_pick_t rfl (decide_eq_true g17) rfl) (trl_nil (tr_keep (ks := [0,2,23]) (.cons rfl (.cons rfl (.cons rfl .nil))) fun base => ?_)))
  refine tr_join (α := Unit) (fun _ => [(0, .pointer (some ⟨r, 0, none⟩)), (2, .int .i64 ((e.b.length - 1 : Nat) : Int))]) (fun _ => [pt r 187 [.int .i64 (outF1 e).a, .int .i64 (outF1 e).c, .int .i64 (outF1 e).ct, v], Sl 5 1 e.b.length v (u8s (outF1 e).b)]) (fun K0 hK0 => ?_) ?_
  ·refine tr_if rfl (fun h0 => ?_) (fun h0 => ?_)
   ·refine tr_seq (tr_region (tmv rfl (tnc rfl (trl_pv (pv_fieldAddr runUnderlying187 rfl sizeOf30 rfl rfl) (trl_val (rv_load isAgg30 rfl (by with_reducible repeat constructor) rfl) ?_)))))
    refine tmv rfl (trl_val (rv_indexAddr_sl runUnderlying30 sizeOf5 rfl rfl (by with_reducible repeat constructor) (by omega) (by omega)) ?_)
    refine trl_val (rv_load_sl isAgg5 rfl (by with_reducible repeat constructor) (idx1 (u8s_getD (show e.b.length - 1 < e.b.length by omega)))) ?_
    refine trl_pv (pv_conv (pv_add rfl rfl) (congrArg (Value.int .u8) (byteQ_eq ((e.b.getD (e.b.length - 1) 0 : Nat) + 1)).symm)) (trl_val (rv_indexAddr_sl runUnderlying30 sizeOf5 rfl rfl (by with_reducible repeat constructor) (by omega) (by omega)) ?_)
    refine trl_eff0 (ef_store_sl sizeOf5 rfl rfl (by first | rfl | assumption) (by with_reducible repeat constructor) (by rw [u8s_length]; show (((e.b.length - 1 : Nat) : Int)).toNat * 1 < _; omega) (show (u8s e.b).set _ _ = u8s (e.b.set (e.b.length - 1) (byteQ ((e.b.getD (e.b.length - 1) 0 : Nat) + 1))) from by rw [Int.toNat_natCast, Nat.mul_one, u8s_set]) ?_)
    refine trl_nil (tr_keep (ks := [0,2]) (.cons rfl (.cons rfl .nil)) fun base => ?_)
    refine tr_region (tmv rfl (tmv rfl (tnc rfl (trl_pv (pv_fieldAddr runUnderlying187 rfl sizeOf3 rfl rfl) (trl_val (rv_load isAgg3 rfl (by with_reducible repeat constructor) rfl) ?_)))))
    refine trl_pv (pv_sub rfl rfl) (tnc rfl (trl_pv (pv_fieldAddr runUnderlying187 rfl sizeOf3 rfl rfl) (trl_eff0 (ef_store sizeOf3 rfl rfl (by first | rfl | assumption) (by with_reducible repeat constructor) rfl ?_))))
    refine trl_nil (tr_keep (ks := [0,2]) (.cons rfl (.cons rfl .nil)) fun base => ?_)
    have h1 : outF1 e = ⟨e.a, wI (e.c - 134217728), e.ct, e.b.set (e.b.length - 1) (byteQ ((e.b.getD (e.b.length - 1) 0 : Nat) + 1))⟩ := if_pos ⟨g17, h0⟩
    refine tr_meet hK0 () (.cons rfl (.cons rfl .nil)) (by rw [h1]; (try dsimp only); exact holds_of_picks (by with_reducible repeat constructor))
   ·refine tr_skip ?_
    have h1 : outF1 e = e := if_neg (fun h => h0 h.2)
    refine tr_meet hK0 () (.cons rfl (.cons rfl .nil)) (by rw [h1]; (try dsimp only); exact holds_of_picks (by with_reducible repeat constructor))
  ·intro y base
   refine tr_seq (tr_seq ?_)
   have hf1 := (outF1_len e).1
   refine tr_region (tmv rfl (tnc rfl (trl_pv (pv_fieldAddr runUnderlying187 rfl sizeOf30 rfl rfl) (trl_val (rv_load isAgg30 rfl (by with_reducible repeat constructor) rfl) ?_))))
   refine tmv rfl (trl_val (rv_indexAddr_sl runUnderlying30 sizeOf5 rfl rfl (by with_reducible repeat constructor) (by omega) (by omega)) ?_)
   refine trl_val (rv_load_sl isAgg5 rfl (by with_reducible repeat constructor) (idx1 (u8s_getD (show e.b.length - 1 < (outF1 e).b.length by omega)))) ?_
   refine trl_pv (pv_eql rfl rfl) (trl_nil (tr_keep (ks := [0,48]) (.cons rfl (.cons rfl .nil)) fun base => ?_))
   refine tr_if rfl (fun h1 => ?_) (fun h1 => ?_)
   ·refine tr_seq (tr_draww (rem := [0,1,2,3,4,5,6,7,8,9,10,11,12,13,14,15]) (by kernel_rfl) (by kernel_rfl) rfl ?_)
    refine twm 0 [13,14,15] rfl (by kernel_rfl) rfl rfl (twm 1 [2,3,4,12,13,14,15] rfl (by kernel_rfl) rfl rfl (twn 2 [3,4,12,13,14,15] rfl (by kernel_rfl) rfl rfl (trw_pure 3 [4,12,13,14,15] rfl (by kernel_rfl) rfl (pv_fieldAddr runUnderlying187 rfl sizeOf30 rfl rfl) (twm 5 [6,7,8,9,10,11,12,13,14,15] rfl (by kernel_rfl) rfl rfl (twn 6 [7,8,9,10,11,12,13,14,15] rfl (by kernel_rfl) rfl rfl (trw_pure 7 [8,9,10,11,12,13,14,15] rfl (by kernel_rfl) rfl (pv_fieldAddr runUnderlying187 rfl sizeOf3 rfl rfl) (trw_read 4 [12,13,14,15] rfl (by kernel_rfl) rfl (rv_load isAgg30 rfl (by with_reducible repeat constructor) rfl) ?_)))))))
    refine trw_read 8 [9,10,11,12,13,14,15] rfl (by kernel_rfl) rfl (rv_load isAgg3 rfl (by with_reducible repeat constructor) rfl) ?_
    refine trw_pure 9 [10,11,12,13,14,15] rfl (by kernel_rfl) rfl (pv_shrI rfl rfl (by omega) (by omega)) ?_
    refine trw_pure 10 [11,12,13,14,15] rfl (by kernel_rfl) rfl (pv_conv (pv_convert runUnderlying3 runUnderlying5 rfl) (congrArg (Value.int .u8) (byteQ_eq ((outF1 e).c / 2 ^ 20)).symm)) (trw_one 11 (by kernel_rfl) ?_)
    refine trwat_eff rfl rfl rfl (ef_buildSlice runUnderlying30 sizeOf5 zeroValue5 rfl rfl rfl rfl rfl (by dsimp only [flatC, cellsL, List.toList_toArray, List.cons_append, List.nil_append, List.append_nil]) fun r60 => ?_)
    refine ⟨?_, (rv_load isAgg30 rfl (by with_reducible repeat constructor) rfl), trivial⟩
    refine trw_one 12 (by kernel_rfl) ?_
    refine trwat_eff rfl rfl rfl (ef_append runUnderlying30 runUnderlying30 typeInfo5 sizeOf5 zeroValue5 rfl rfl rfl (by with_reducible repeat constructor) (reads_pt (by with_reducible repeat constructor) rfl) rfl (by simp [one?]) (by rw [show Tryz.t5.bytes = 1 from rfl]; omega) fun v61 ho61 => ?_)
    refine ⟨?_, trivial⟩
    refine twn 13 [14,15] rfl (by kernel_rfl) rfl rfl (trw_pure 14 [15] rfl (by kernel_rfl) rfl (pv_fieldAddr runUnderlying187 rfl sizeOf30 rfl rfl) (trw_one 15 (by kernel_rfl) ?_))
    refine trwat_eff0 rfl rfl rfl (ef_store sizeOf30 rfl rfl (by first | rfl | assumption) (by with_reducible repeat constructor) rfl ?_)
    refine ⟨?_, trivial⟩
    refine trw_nil (tr_keep (ks := [0]) (.cons rfl .nil) fun base => ?_)
    refine tr_seq (tr_region (tmv rfl (tmv rfl (tnc rfl (trl_pv (pv_fieldAddr runUnderlying187 rfl sizeOf3 rfl rfl) (trl_val (rv_load isAgg3 rfl (by with_reducible repeat constructor) rfl) ?_))))))
    refine trl_pv (pv_and rfl rfl) (tnc rfl (trl_pv (pv_fieldAddr runUnderlying187 rfl sizeOf3 rfl rfl) (trl_eff0 (ef_store sizeOf3 rfl rfl (by first | rfl | assumption) (by with_reducible repeat constructor) rfl ?_))))
    refine trl_nil (tr_keep (ks := [0]) (.cons rfl .nil) fun base => ?_)
    refine tr_seq (tr_region (tmv rfl (tnc rfl (trl_pv (pv_fieldAddr runUnderlying187 rfl sizeOf3 rfl rfl) (trl_eff0 (ef_store sizeOf3 rfl rfl (by first | rfl | assumption) (by with_reducible repeat constructor) rfl ?_))))))
    refine trl_nil ?_
    have h2 : outF e = ⟨(outF1 e).a, andI (outF1 e).c 1048575, 7, (outF1 e).b ++ [byteQ ((outF1 e).c / 2 ^ 20)]⟩ := if_pos h1
    rw [h2]
    refine Tr.fold (me_fold (r := r) (e := ⟨(outF1 e).a, andI (outF1 e).c 1048575, 7, (outF1 e).b ++ [byteQ ((outF1 e).c / 2 ^ 20)]⟩) (n := e.b.length + 1) (v := v61) (a := (outF1 e).a) (c := andI (outF1 e).c 1048575) (ct := 7) (cs := u8s (outF1 e).b ++ [.int .u8 ((byteQ ((outF1 e).c / 2 ^ 20) : Nat) : Int)]) ho61 rfl rfl rfl (by simp [hf1]) (by simp only [u8s_append, u8s_one])) (by with_reducible repeat constructor) ?_
    refine tr_ret func104 rfl .nil (by kernel_rfl) .nil () rfl trivial (holds_of_picks (by with_reducible repeat constructor))
   ·refine tr_skip (tr_seq (tr_draww (rem := [0,1,2,3,4,5,6,7,8,9,10,11,12,13,14,15]) (by kernel_rfl) (by kernel_rfl) rfl ?_))
    refine twm 0 [13,14,15] rfl (by kernel_rfl) rfl rfl (twm 1 [2,3,4,12,13,14,15] rfl (by kernel_rfl) rfl rfl (twn 2 [3,4,12,13,14,15] rfl (by kernel_rfl) rfl rfl (trw_pure 3 [4,12,13,14,15] rfl (by kernel_rfl) rfl (pv_fieldAddr runUnderlying187 rfl sizeOf30 rfl rfl) (twm 5 [6,7,8,9,10,11,12,13,14,15] rfl (by kernel_rfl) rfl rfl (twn 6 [7,8,9,10,11,12,13,14,15] rfl (by kernel_rfl) rfl rfl (trw_pure 7 [8,9,10,11,12,13,14,15] rfl (by kernel_rfl) rfl (pv_fieldAddr runUnderlying187 rfl sizeOf3 rfl rfl) (trw_read 4 [12,13,14,15] rfl (by kernel_rfl) rfl (rv_load isAgg30 rfl (by with_reducible repeat constructor) rfl) ?_)))))))
    refine trw_read 8 [9,10,11,12,13,14,15] rfl (by kernel_rfl) rfl (rv_load isAgg3 rfl (by with_reducible repeat constructor) rfl) ?_
    refine trw_pure 9 [10,11,12,13,14,15] rfl (by kernel_rfl) rfl (pv_shrI rfl rfl (by omega) (by omega)) ?_
    refine trw_pure 10 [11,12,13,14,15] rfl (by kernel_rfl) rfl (pv_conv (pv_convert runUnderlying3 runUnderlying5 rfl) (congrArg (Value.int .u8) (byteQ_eq ((outF1 e).c / 2 ^ 19)).symm)) (trw_one 11 (by kernel_rfl) ?_)
    refine trwat_eff rfl rfl rfl (ef_buildSlice runUnderlying30 sizeOf5 zeroValue5 rfl rfl rfl rfl rfl (by dsimp only [flatC, cellsL, List.toList_toArray, List.cons_append, List.nil_append, List.append_nil]) fun r86 => ?_)
    refine ⟨?_, (rv_load isAgg30 rfl (by with_reducible repeat constructor) rfl), trivial⟩
    refine trw_one 12 (by kernel_rfl) ?_
    refine trwat_eff rfl rfl rfl (ef_append runUnderlying30 runUnderlying30 typeInfo5 sizeOf5 zeroValue5 rfl rfl rfl (by with_reducible repeat constructor) (reads_pt (by with_reducible repeat constructor) rfl) rfl (by simp [one?]) (by rw [show Tryz.t5.bytes = 1 from rfl]; omega) fun v87 ho87 => ?_)
    refine ⟨?_, trivial⟩
    refine twn 13 [14,15] rfl (by kernel_rfl) rfl rfl (trw_pure 14 [15] rfl (by kernel_rfl) rfl (pv_fieldAddr runUnderlying187 rfl sizeOf30 rfl rfl) (trw_one 15 (by kernel_rfl) ?_))
    refine trwat_eff0 rfl rfl rfl (ef_store sizeOf30 rfl rfl (by first | rfl | assumption) (by with_reducible repeat constructor) rfl ?_)
    refine ⟨?_, trivial⟩
    refine trw_nil (tr_keep (ks := [0]) (.cons rfl .nil) fun base => ?_)
    refine tr_seq (tr_region (tmv rfl (tmv rfl (tnc rfl (trl_pv (pv_fieldAddr runUnderlying187 rfl sizeOf3 rfl rfl) (trl_val (rv_load isAgg3 rfl (by with_reducible repeat constructor) rfl) ?_))))))
    refine trl_pv (pv_and rfl rfl) (tnc rfl (trl_pv (pv_fieldAddr runUnderlying187 rfl sizeOf3 rfl rfl) (trl_eff0 (ef_store sizeOf3 rfl rfl (by first | rfl | assumption) (by with_reducible repeat constructor) rfl ?_))))
    refine trl_nil (tr_keep (ks := [0]) (.cons rfl .nil) fun base => ?_)
    refine tr_region (tmv rfl (tnc rfl (trl_pv (pv_fieldAddr runUnderlying187 rfl sizeOf3 rfl rfl) (trl_eff0 (ef_store sizeOf3 rfl rfl (by first | rfl | assumption) (by with_reducible repeat constructor) rfl ?_)))))
    refine trl_nil ?_
    have h2 : outF e = ⟨(outF1 e).a, andI (outF1 e).c 524287, 8, (outF1 e).b ++ [byteQ ((outF1 e).c / 2 ^ 19)]⟩ := if_neg h1
    rw [h2]
    refine Tr.fold (me_fold (r := r) (e := ⟨(outF1 e).a, andI (outF1 e).c 524287, 8, (outF1 e).b ++ [byteQ ((outF1 e).c / 2 ^ 19)]⟩) (n := e.b.length + 1) (v := v87) (a := (outF1 e).a) (c := andI (outF1 e).c 524287) (ct := 8) (cs := u8s (outF1 e).b ++ [.int .u8 ((byteQ ((outF1 e).c / 2 ^ 19) : Nat) : Int)]) ho87 rfl rfl rfl (by simp [hf1]) (by simp only [u8s_append, u8s_one])) (by with_reducible repeat constructor) ?_
    refine tr_end func104 rfl .nil (by kernel_rfl) .nil () rfl trivial (holds_of_picks (by with_reducible repeat constructor))
 ·refine trl_not rfl (decide_eq_false g17) ?_
  refine trl_not rfl (decide_eq_false g17) ?_
  refine trl_not rfl (decide_eq_false g17) ?_
  refine trl_not rfl (decide_eq_false g17) ?_
  refine trl_not rfl (decide_eq_false g17) ?_
  refine trl_pv (pv_pick_f rfl (decide_eq_false g17) rfl) (trl_nil (tr_keep (ks := [0,2,23]) (.cons rfl (.cons rfl (.cons rfl .nil))) fun base => ?_))
  refine tr_join (α := Unit) (fun _ => [(0, .pointer (some ⟨r, 0, none⟩)), (2, .int .i64 ((e.b.length - 1 : Nat) : Int))]) (fun _ => [pt r 187 [.int .i64 (outF1 e).a, .int .i64 (outF1 e).c, .int .i64 (outF1 e).ct, v], Sl 5 1 e.b.length v (u8s (outF1 e).b)]) (fun K0 hK0 => ?_) ?_
  ·refine tr_else rfl rfl ?_
   refine tr_skip ?_
   have h1 : outF1 e = e := if_neg (fun h => g17 h.1)
   refine tr_meet hK0 () (.cons rfl (.cons rfl .nil)) (by rw [h1]; (try dsimp only); exact holds_of_picks (by with_reducible repeat constructor))
  ·intro y base
   refine tr_seq (tr_seq ?_)
   have hf1 := (outF1_len e).1
   refine tr_region (tmv rfl (tnc rfl (trl_pv (pv_fieldAddr runUnderlying187 rfl sizeOf30 rfl rfl) (trl_val (rv_load isAgg30 rfl (by with_reducible repeat constructor) rfl) ?_))))
   refine tmv rfl (trl_val (rv_indexAddr_sl runUnderlying30 sizeOf5 rfl rfl (by with_reducible repeat constructor) (by omega) (by omega)) ?_)
   refine trl_val (rv_load_sl isAgg5 rfl (by with_reducible repeat constructor) (idx1 (u8s_getD (show e.b.length - 1 < (outF1 e).b.length by omega)))) ?_
   refine trl_pv (pv_eql rfl rfl) (trl_nil (tr_keep (ks := [0,48]) (.cons rfl (.cons rfl .nil)) fun base => ?_))
   refine tr_if rfl (fun h1 => ?_) (fun h1 => ?_)
   ·refine tr_seq (tr_draww (rem := [0,1,2,3,4,5,6,7,8,9,10,11,12,13,14,15]) (by kernel_rfl) (by kernel_rfl) rfl ?_)
    refine twm 0 [13,14,15] rfl (by kernel_rfl) rfl rfl (twm 1 [2,3,4,12,13,14,15] rfl (by kernel_rfl) rfl rfl (twn 2 [3,4,12,13,14,15] rfl (by kernel_rfl) rfl rfl (trw_pure 3 [4,12,13,14,15] rfl (by kernel_rfl) rfl (pv_fieldAddr runUnderlying187 rfl sizeOf30 rfl rfl) (twm 5 [6,7,8,9,10,11,12,13,14,15] rfl (by kernel_rfl) rfl rfl (twn 6 [7,8,9,10,11,12,13,14,15] rfl (by kernel_rfl) rfl rfl (trw_pure 7 [8,9,10,11,12,13,14,15] rfl (by kernel_rfl) rfl (pv_fieldAddr runUnderlying187 rfl sizeOf3 rfl rfl) (trw_read 4 [12,13,14,15] rfl (by kernel_rfl) rfl (rv_load isAgg30 rfl (by with_reducible repeat constructor) rfl) ?_)))))))
    refine trw_read 8 [9,10,11,12,13,14,15] rfl (by kernel_rfl) rfl (rv_load isAgg3 rfl (by with_reducible repeat constructor) rfl) ?_
    refine trw_pure 9 [10,11,12,13,14,15] rfl (by kernel_rfl) rfl (pv_shrI rfl rfl (by omega) (by omega)) ?_
    refine trw_pure 10 [11,12,13,14,15] rfl (by kernel_rfl) rfl (pv_conv (pv_convert runUnderlying3 runUnderlying5 rfl) (congrArg (Value.int .u8) (byteQ_eq ((outF1 e).c / 2 ^ 20)).symm)) (trw_one 11 (by kernel_rfl) ?_)
    refine trwat_eff rfl rfl rfl (ef_buildSlice runUnderlying30 sizeOf5 zeroValue5 rfl rfl rfl rfl rfl (by dsimp only [flatC, cellsL, List.toList_toArray, List.cons_append, List.nil_append, List.append_nil]) fun r60 => ?_)
    refine ⟨?_, (rv_load isAgg30 rfl (by with_reducible repeat constructor) rfl), trivial⟩
    refine trw_one 12 (by kernel_rfl) ?_
    refine trwat_eff rfl rfl rfl (ef_append runUnderlying30 runUnderlying30 typeInfo5 sizeOf5 zeroValue5 rfl rfl rfl (by with_reducible repeat constructor) (reads_pt (by with_reducible repeat constructor) rfl) rfl (by simp [one?]) (by rw [show Tryz.t5.bytes = 1 from rfl]; omega) fun v61 ho61 => ?_)
    refine ⟨?_, trivial⟩
    refine twn 13 [14,15] rfl (by kernel_rfl) rfl rfl (trw_pure 14 [15] rfl (by kernel_rfl) rfl (pv_fieldAddr runUnderlying187 rfl sizeOf30 rfl rfl) (trw_one 15 (by kernel_rfl) ?_))
    refine trwat_eff0 rfl rfl rfl (ef_store sizeOf30 rfl rfl (by first | rfl | assumption) (by with_reducible repeat constructor) rfl ?_)
    refine ⟨?_, trivial⟩
    refine trw_nil (tr_keep (ks := [0]) (.cons rfl .nil) fun base => ?_)
    refine tr_seq (tr_region (tmv rfl (tmv rfl (tnc rfl (trl_pv (pv_fieldAddr runUnderlying187 rfl sizeOf3 rfl rfl) (trl_val (rv_load isAgg3 rfl (by with_reducible repeat constructor) rfl) ?_))))))
    refine trl_pv (pv_and rfl rfl) (tnc rfl (trl_pv (pv_fieldAddr runUnderlying187 rfl sizeOf3 rfl rfl) (trl_eff0 (ef_store sizeOf3 rfl rfl (by first | rfl | assumption) (by with_reducible repeat constructor) rfl ?_))))
    refine trl_nil (tr_keep (ks := [0]) (.cons rfl .nil) fun base => ?_)
    refine tr_seq (tr_region (tmv rfl (tnc rfl (trl_pv (pv_fieldAddr runUnderlying187 rfl sizeOf3 rfl rfl) (trl_eff0 (ef_store sizeOf3 rfl rfl (by first | rfl | assumption) (by with_reducible repeat constructor) rfl ?_))))))
    refine trl_nil ?_
    have h2 : outF e = ⟨(outF1 e).a, andI (outF1 e).c 1048575, 7, (outF1 e).b ++ [byteQ ((outF1 e).c / 2 ^ 20)]⟩ := if_pos h1
    rw [h2]
    refine Tr.fold (me_fold (r := r) (e := ⟨(outF1 e).a, andI (outF1 e).c 1048575, 7, (outF1 e).b ++ [byteQ ((outF1 e).c / 2 ^ 20)]⟩) (n := e.b.length + 1) (v := v61) (a := (outF1 e).a) (c := andI (outF1 e).c 1048575) (ct := 7) (cs := u8s (outF1 e).b ++ [.int .u8 ((byteQ ((outF1 e).c / 2 ^ 20) : Nat) : Int)]) ho61 rfl rfl rfl (by simp [hf1]) (by simp only [u8s_append, u8s_one])) (by with_reducible repeat constructor) ?_
    refine tr_ret func104 rfl .nil (by kernel_rfl) .nil () rfl trivial (holds_of_picks (by with_reducible repeat constructor))
   ·refine tr_skip (tr_seq (tr_draww (rem := [0,1,2,3,4,5,6,7,8,9,10,11,12,13,14,15]) (by kernel_rfl) (by kernel_rfl) rfl ?_))
    refine twm 0 [13,14,15] rfl (by kernel_rfl) rfl rfl (twm 1 [2,3,4,12,13,14,15] rfl (by kernel_rfl) rfl rfl (twn 2 [3,4,12,13,14,15] rfl (by kernel_rfl) rfl rfl (trw_pure 3 [4,12,13,14,15] rfl (by kernel_rfl) rfl (pv_fieldAddr runUnderlying187 rfl sizeOf30 rfl rfl) (twm 5 [6,7,8,9,10,11,12,13,14,15] rfl (by kernel_rfl) rfl rfl (twn 6 [7,8,9,10,11,12,13,14,15] rfl (by kernel_rfl) rfl rfl (trw_pure 7 [8,9,10,11,12,13,14,15] rfl (by kernel_rfl) rfl (pv_fieldAddr runUnderlying187 rfl sizeOf3 rfl rfl) (trw_read 4 [12,13,14,15] rfl (by kernel_rfl) rfl (rv_load isAgg30 rfl (by with_reducible repeat constructor) rfl) ?_)))))))
    refine trw_read 8 [9,10,11,12,13,14,15] rfl (by kernel_rfl) rfl (rv_load isAgg3 rfl (by with_reducible repeat constructor) rfl) ?_
    refine trw_pure 9 [10,11,12,13,14,15] rfl (by kernel_rfl) rfl (pv_shrI rfl rfl (by omega) (by omega)) ?_
    refine trw_pure 10 [11,12,13,14,15] rfl (by kernel_rfl) rfl (pv_conv (pv_convert runUnderlying3 runUnderlying5 rfl) (congrArg (Value.int .u8) (byteQ_eq ((outF1 e).c / 2 ^ 19)).symm)) (trw_one 11 (by kernel_rfl) ?_)
    refine trwat_eff rfl rfl rfl (ef_buildSlice runUnderlying30 sizeOf5 zeroValue5 rfl rfl rfl rfl rfl (by dsimp only [flatC, cellsL, List.toList_toArray, List.cons_append, List.nil_append, List.append_nil]) fun r86 => ?_)
    refine ⟨?_, (rv_load isAgg30 rfl (by with_reducible repeat constructor) rfl), trivial⟩
    refine trw_one 12 (by kernel_rfl) ?_
    refine trwat_eff rfl rfl rfl (ef_append runUnderlying30 runUnderlying30 typeInfo5 sizeOf5 zeroValue5 rfl rfl rfl (by with_reducible repeat constructor) (reads_pt (by with_reducible repeat constructor) rfl) rfl (by simp [one?]) (by rw [show Tryz.t5.bytes = 1 from rfl]; omega) fun v87 ho87 => ?_)
    refine ⟨?_, trivial⟩
    refine twn 13 [14,15] rfl (by kernel_rfl) rfl rfl (trw_pure 14 [15] rfl (by kernel_rfl) rfl (pv_fieldAddr runUnderlying187 rfl sizeOf30 rfl rfl) (trw_one 15 (by kernel_rfl) ?_))
    refine trwat_eff0 rfl rfl rfl (ef_store sizeOf30 rfl rfl (by first | rfl | assumption) (by with_reducible repeat constructor) rfl ?_)
    refine ⟨?_, trivial⟩
    refine trw_nil (tr_keep (ks := [0]) (.cons rfl .nil) fun base => ?_)
    refine tr_seq (tr_region (tmv rfl (tmv rfl (tnc rfl (trl_pv (pv_fieldAddr runUnderlying187 rfl sizeOf3 rfl rfl) (trl_val (rv_load isAgg3 rfl (by with_reducible repeat constructor) rfl) ?_))))))
    refine trl_pv (pv_and rfl rfl) (tnc rfl (trl_pv (pv_fieldAddr runUnderlying187 rfl sizeOf3 rfl rfl) (trl_eff0 (ef_store sizeOf3 rfl rfl (by first | rfl | assumption) (by with_reducible repeat constructor) rfl ?_))))
    refine trl_nil (tr_keep (ks := [0]) (.cons rfl .nil) fun base => ?_)
    refine tr_region (tmv rfl (tnc rfl (trl_pv (pv_fieldAddr runUnderlying187 rfl sizeOf3 rfl rfl) (trl_eff0 (ef_store sizeOf3 rfl rfl (by first | rfl | assumption) (by with_reducible repeat constructor) rfl ?_)))))
    refine trl_nil ?_
    have h2 : outF e = ⟨(outF1 e).a, andI (outF1 e).c 524287, 8, (outF1 e).b ++ [byteQ ((outF1 e).c / 2 ^ 19)]⟩ := if_neg h1
    rw [h2]
    refine Tr.fold (me_fold (r := r) (e := ⟨(outF1 e).a, andI (outF1 e).c 524287, 8, (outF1 e).b ++ [byteQ ((outF1 e).c / 2 ^ 19)]⟩) (n := e.b.length + 1) (v := v87) (a := (outF1 e).a) (c := andI (outF1 e).c 524287) (ct := 8) (cs := u8s (outF1 e).b ++ [.int .u8 ((byteQ ((outF1 e).c / 2 ^ 19) : Nat) : Int)]) ho87 rfl rfl rfl (by simp [hf1]) (by simp only [u8s_append, u8s_one])) (by with_reducible repeat constructor) ?_
    refine tr_end func104 rfl .nil (by kernel_rfl) .nil () rfl trivial (holds_of_picks (by with_reducible repeat constructor))
theorem q_outlen {r : Nat} {e : MqE} (hl : e.b.length < 1000000000000) : Spec Tryz.prog 60 [.pointer (some ⟨r, 0, none⟩)] [ME r e] (fun _ : Unit => ⟨.int .i64 ((e.b.length : Int) - 1), True, [ME r e]⟩) := by
 refine spec_of_tr func60 rfl ntmps60 (by kernel_rfl) ?_
 refine Tr.unfold me_open .here fun v hv => ?_
 dsimp only [List.cons_append, List.nil_append]
 refine tr_seq (tr_region (tas rfl (trl_nil (tr_seq (tr_region (tmv rfl (tnc rfl (trl_pv (pv_fieldAddr runUnderlying187 rfl sizeOf30 rfl rfl) (trl_val (rv_load isAgg30 rfl (by with_reducible repeat constructor) rfl) ?_)))))))))
 refine trl_val (rv_len_sl runUnderlying30 rfl (by with_reducible repeat constructor)) ?_
 refine trl_pv (pv_subI rfl rfl (by omega) (by omega)) ?_
 refine tas rfl (trl_nil (tr_keep (ks := [2]) (.cons rfl .nil) fun base => ?_))
 refine Tr.fold (me_fold (e := e) hv rfl rfl rfl rfl rfl) (by with_reducible repeat constructor) ?_
 refine tr_ret func60 rfl .nil (by kernel_rfl) (.tmp rfl .nil) () rfl trivial (holds_of_picks (by with_reducible repeat constructor))
theorem q_encode {r rc oc k : Nat} {TC : TypeId} {e : MqE} {cx : Cxs} {bit : Int} {PP QQ : List Value} (hPP : PP.length = oc) (he : EqOk e) (hcx : CxOk cx) (hk : k < 19) (hl : e.b.length < 900000000000) :
    Spec Tryz.prog 136 [.pointer (some ⟨r, 0, none⟩), .pointer (some ⟨rc, oc, none⟩), .int .i64 (k : Nat), .int .i64 bit] [ME r e, pt rc TC (PP ++ cxC cx ++ QQ)]
    (fun _ : Unit => ⟨.tuple #[], True, [ME r (encQ e cx k bit).1, pt rc TC (PP ++ cxC (encQ e cx k bit).2 ++ QQ)]⟩) := by
 refine spec_of_tr func136 rfl ntmps136 (by kernel_rfl) ?_
 have hg := hcx.getD hk
 have hcl := hcx.1
 obtain ⟨hq1, hq2, -, -, -, -⟩ := rowQ_ok hg.1 hg.2
 obtain ⟨he1, he2, he3⟩ := id he
 refine Tr.unfold me_open .here fun v hv => ?_
 dsimp only [List.cons_append, List.nil_append]
 refine tr_seq (tr_seq (tr_region (tmv rfl (trl_pv (pv_lss rfl rfl) (tmv rfl (trl_pvg rfl (decide_eq_false (by omega)) (pv_move rfl) ?_))))))
 refine trl_pvg rfl (decide_eq_false (by omega)) (pv_geq rfl rfl) ?_
 refine trl_pv (pv_pick_f rfl (decide_eq_false (by omega)) rfl) ?_
 refine trl_nil (tr_else rfl (decide_eq_false (by omega)) ?_)
 refine tr_skip (tr_seq (tr_region (tmv rfl (tmv rfl (tnc rfl (trl_pv (pv_indexAddr_a runUnderlying127 sizeOf125 rfl rfl (by omega) (by omega)) ?_))))))
 refine trl_pv (pv_fieldAddr runUnderlying125 rfl sizeOf3 rfl rfl) (trl_val (rv_load isAgg3 rfl (by with_reducible repeat constructor) (show (PP ++ cxC cx ++ QQ)[_]? = some (.int .i64 (cx.getD k (0, 0)).1) from cx_get (k := k) (j := 0) hPP (by first | omega | (simp; omega)) rfl)) ?_)
 refine trl_eff (ef_call rfl rfl call139 (s_at (i := (cx.getD k (0, 0)).1) hg.1 hg.2) (by with_reducible repeat constructor) fun x21 hx21 => ?_)
 dsimp only [List.cons_append, List.nil_append]
 refine trl_eff (ef_alloc zeroValue218 (by dsimp only [cellsL, List.toList_toArray]) fun r8 => ?_)
 refine trl_eff0 (ef_store_agg sizeOf218 rfl rfl rfl (by with_reducible repeat constructor) rfl ?_)
 refine trl_nil (tr_keep (ks := [0,1,2,3,8]) (.cons rfl (.cons rfl (.cons rfl (.cons rfl (.cons rfl .nil))))) fun base => ?_)
 refine tr_seq (tr_draww (rem := [0,1,2,3,4,5,6,7,8,9,10]) (by kernel_rfl) (by kernel_rfl) rfl ?_)
 refine twm 0 [8,9,10] rfl (by kernel_rfl) rfl rfl (twm 1 [2,3,4,7,8,9,10] rfl (by kernel_rfl) rfl rfl (twn 2 [3,4,7,8,9,10] rfl (by kernel_rfl) rfl rfl (trw_pure 3 [4,7,8,9,10] rfl (by kernel_rfl) rfl (pv_fieldAddr runUnderlying187 rfl sizeOf3 rfl rfl) (trw_pure 5 [6,7,8,9,10] rfl (by kernel_rfl) rfl (pv_fieldAddr runUnderlying218 rfl sizeOf3 rfl rfl) (trw_read 4 [7,8,9,10] rfl (by kernel_rfl) rfl (rv_load isAgg3 rfl (by with_reducible repeat constructor) rfl) ?_)))))
 refine trw_read 6 [7,8,9,10] rfl (by kernel_rfl) rfl (rv_load isAgg3 rfl (by with_reducible repeat constructor) rfl) ?_
 refine trw_pure 7 [8,9,10] rfl (by kernel_rfl) rfl (pv_subI rfl rfl (by omega) (by omega)) ?_
 refine twn 8 [9,10] rfl (by kernel_rfl) rfl rfl (trw_pure 9 [10] rfl (by kernel_rfl) rfl (pv_fieldAddr runUnderlying187 rfl sizeOf3 rfl rfl) (trw_one 10 (by kernel_rfl) ?_))
 refine trwat_eff0 rfl rfl rfl (ef_store sizeOf3 rfl rfl (by first | rfl | assumption) (by with_reducible repeat constructor) rfl ?_)
 refine ⟨?_, trivial⟩
 refine trw_nil (tr_keep (ks := [0,1,2,3,8]) (.cons rfl (.cons rfl (.cons rfl (.cons rfl (.cons rfl .nil))))) fun base => ?_)
 refine tr_seq (tr_seq (tr_region (tmv rfl (trl_pv (pv_and rfl rfl) (tmv rfl (tmv rfl (tnc rfl (trl_pv (pv_indexAddr_a runUnderlying127 sizeOf125 rfl rfl (by omega) (by omega)) ?_))))))))
 refine trl_pv (pv_fieldAddr runUnderlying125 rfl sizeOf3 rfl rfl) (trl_val (rv_load isAgg3 rfl (by with_reducible repeat constructor) (show (PP ++ cxC cx ++ QQ)[_]? = some (.int .i64 (cx.getD k (0, 0)).2) from cx_get (k := k) (j := 1) hPP (by first | omega | (simp; omega)) rfl)) ?_)
 refine trl_pv (pv_eql rfl rfl) (trl_nil (tr_keep (ks := [0,1,2,8,40]) (.cons rfl (.cons rfl (.cons rfl (.cons rfl (.cons rfl .nil))))) fun base => ?_))
 refine tr_join (α := MqE × Cxs) (fun _ => [(0, .pointer (some ⟨r, 0, none⟩))]) (fun y => [pure' (encQ e cx k bit = (renF 16 y.1, y.2) ∧ 1 ≤ y.1.a ∧ y.1.a < 65536 ∧ y.1.b.length = e.b.length), ME r y.1, pt rc TC (PP ++ cxC y.2 ++ QQ)]) (fun K1 hK1 => ?_) ?_
 ·refine tr_if rfl (fun h1 => ?_) (fun h1 => ?_)
  ·have hmp := mpsE_ok he hq1 hq2
   refine tr_seq (tr_seq (tr_region (tmv rfl (tnc rfl (trl_pv (pv_fieldAddr runUnderlying187 rfl sizeOf3 rfl rfl) (trl_val (rv_load isAgg3 rfl (by with_reducible repeat constructor) rfl) ?_))))))
   refine trl_pv (pv_geq rfl rfl) (trl_nil (tr_if rfl (fun h2 => ?_) (fun h2 => ?_)))
   ·refine tr_seq (tr_draww (rem := [0,1,2,3,4,5,6,7,8,9,10]) (by kernel_rfl) (by kernel_rfl) rfl ?_)
    refine twm 0 [8,9,10] rfl (by kernel_rfl) rfl rfl (twm 1 [2,3,4,7,8,9,10] rfl (by kernel_rfl) rfl rfl (twn 2 [3,4,7,8,9,10] rfl (by kernel_rfl) rfl rfl (trw_pure 3 [4,7,8,9,10] rfl (by kernel_rfl) rfl (pv_fieldAddr runUnderlying187 rfl sizeOf3 rfl rfl) (trw_pure 5 [6,7,8,9,10] rfl (by kernel_rfl) rfl (pv_fieldAddr runUnderlying218 rfl sizeOf3 rfl rfl) (trw_read 4 [7,8,9,10] rfl (by kernel_rfl) rfl (rv_load isAgg3 rfl (by with_reducible repeat constructor) rfl) ?_)))))
    refine trw_read 6 [7,8,9,10] rfl (by kernel_rfl) rfl (rv_load isAgg3 rfl (by with_reducible repeat constructor) rfl) ?_
    refine trw_pure 7 [8,9,10] rfl (by kernel_rfl) rfl (pv_add rfl rfl) (twn 8 [9,10] rfl (by kernel_rfl) rfl rfl (trw_pure 9 [10] rfl (by kernel_rfl) rfl (pv_fieldAddr runUnderlying187 rfl sizeOf3 rfl rfl) (trw_one 10 (by kernel_rfl) ?_)))
    refine trwat_eff0 rfl rfl rfl (ef_store sizeOf3 rfl rfl (by first | rfl | assumption) (by with_reducible repeat constructor) rfl ?_)
    refine ⟨?_, trivial⟩
    refine trw_nil (tr_keep (ks := []) (.nil) fun base => ?_)
    rw [show encQ e cx k bit = ({ e with a := e.a - (rowQ (cx.getD k (0, 0)).1).1, c := wI (e.c + (rowQ (cx.getD k (0, 0)).1).1) }, cx) from by unfold encQ; dsimp only; rw [if_pos h1, if_pos h2]]
    dsimp only
    refine Tr.fold (me_fold (r := r) (e := { e with a := e.a - (rowQ (cx.getD k (0, 0)).1).1, c := wI (e.c + (rowQ (cx.getD k (0, 0)).1).1) }) (n := e.b.length) (v := v) (a := e.a - (rowQ (cx.getD k (0, 0)).1).1) (c := wI (e.c + (rowQ (cx.getD k (0, 0)).1).1)) (ct := e.ct) (cs := u8s e.b) hv rfl rfl rfl rfl rfl) (by with_reducible repeat constructor) ?_
    refine tr_ret func136 rfl .nil (by kernel_rfl) .nil () rfl trivial (holds_of_picks (by with_reducible repeat constructor))
   ·refine tr_skip (tr_seq (tr_seq (tr_draww (rem := [0,1,2,3,4,5,6]) (by kernel_rfl) (by kernel_rfl) rfl ?_)))
    refine twm 0 [1,2,3,6] rfl (by kernel_rfl) rfl rfl (twn 1 [2,3,6] rfl (by kernel_rfl) rfl rfl (trw_pure 2 [3,6] rfl (by kernel_rfl) rfl (pv_fieldAddr runUnderlying187 rfl sizeOf3 rfl rfl) (trw_pure 4 [5,6] rfl (by kernel_rfl) rfl (pv_fieldAddr runUnderlying218 rfl sizeOf3 rfl rfl) (trw_read 3 [6] rfl (by kernel_rfl) rfl (rv_load isAgg3 rfl (by with_reducible repeat constructor) rfl) ?_))))
    refine trw_read 5 [6] rfl (by kernel_rfl) rfl (rv_load isAgg3 rfl (by with_reducible repeat constructor) rfl) ?_
    refine trw_pure 6 [] rfl (by kernel_rfl) rfl (pv_lss rfl rfl) (trw_nil (tr_keep (ks := [0,1,2,8,62]) (.cons rfl (.cons rfl (.cons rfl (.cons rfl (.cons rfl .nil))))) fun base => ?_))
    refine tr_if rfl (fun h3 => ?_) (fun h3 => ?_)
    ·refine tr_region (tmv rfl (trl_pv (pv_fieldAddr runUnderlying218 rfl sizeOf3 rfl rfl) (trl_val (rv_load isAgg3 rfl (by with_reducible repeat constructor) rfl) ?_)))
     refine tnc rfl (trl_pv (pv_fieldAddr runUnderlying187 rfl sizeOf3 rfl rfl) (trl_eff0 (ef_store sizeOf3 rfl rfl (by first | rfl | assumption) (by with_reducible repeat constructor) rfl ?_)))
     refine trl_nil (tr_draww (rem := [0,1,2,3,4,5,6,7]) (by kernel_rfl) (by kernel_rfl) rfl ?_)
     refine twm 0 [4,5,6,7] rfl (by kernel_rfl) rfl rfl (twm 1 [5,6,7] rfl (by kernel_rfl) rfl rfl (trw_pure 2 [3,5,6,7] rfl (by kernel_rfl) rfl (pv_fieldAddr runUnderlying218 rfl sizeOf3 rfl rfl) (twn 4 [5,6,7] rfl (by kernel_rfl) rfl rfl (trw_read 3 [5,6,7] rfl (by kernel_rfl) rfl (rv_load isAgg3 rfl (by with_reducible repeat constructor) rfl) ?_))))
     refine trw_pure 5 [6,7] rfl (by kernel_rfl) rfl (pv_indexAddr_a runUnderlying127 sizeOf125 rfl rfl (by omega) (by omega)) ?_
     refine trw_pure 6 [7] rfl (by kernel_rfl) rfl (pv_fieldAddr runUnderlying125 rfl sizeOf3 rfl rfl) (trw_one 7 (by kernel_rfl) ?_)
     refine trwat_eff0 rfl rfl rfl (ef_store_set sizeOf3 rfl rfl rfl (by with_reducible repeat constructor) (by simp only [List.length_append, cxC_length, List.length_set]; simp; omega) (show (PP ++ cxC cx ++ QQ).set _ _ = PP ++ cxC (cx.set k ((rowQ (cx.getD k (0, 0)).1).2.1, (cx.getD k (0, 0)).2)) ++ QQ from cx_set (k := k) (j := 0) hPP (by omega) (by decide) rfl) ?_)
     refine ⟨?_, trivial⟩
     refine trw_nil (tr_keep (ks := [0]) (.cons rfl .nil) fun base => ?_)
     have hm : mpsE e (rowQ (cx.getD k (0, 0)).1).1 = { e with a := (rowQ (cx.getD k (0, 0)).1).1 } := if_pos h3
     skip
     refine Tr.fold (me_fold (r := r) (e := mpsE e (rowQ (cx.getD k (0, 0)).1).1) (n := e.b.length) (v := v) (a := (rowQ (cx.getD k (0, 0)).1).1) (c := e.c) (ct := e.ct) (cs := u8s e.b) hv (by rw [hm]) (by rw [hm]) (by rw [hm]) (by rw [hm]) (by rw [hm])) (by with_reducible repeat constructor) ?_
     refine tr_meet hK1 (mpsE e (rowQ (cx.getD k (0, 0)).1).1, cx.set k ((rowQ (cx.getD k (0, 0)).1).2.1, (cx.getD k (0, 0)).2)) (.cons rfl .nil) (holds_pure ⟨by unfold encQ; dsimp only; rw [if_pos h1, if_neg h2], hmp.1, hmp.2.1, by rw [hmp.2.2]⟩ (holds_of_picks (by with_reducible repeat constructor)))
    ·refine tr_draww (rem := [0,1,2,3,4,5,6,7,8,9,10]) (by kernel_rfl) (by kernel_rfl) rfl ?_
     refine twm 0 [8,9,10] rfl (by kernel_rfl) rfl rfl (twm 1 [2,3,4,7,8,9,10] rfl (by kernel_rfl) rfl rfl (twn 2 [3,4,7,8,9,10] rfl (by kernel_rfl) rfl rfl (trw_pure 3 [4,7,8,9,10] rfl (by kernel_rfl) rfl (pv_fieldAddr runUnderlying187 rfl sizeOf3 rfl rfl) (trw_pure 5 [6,7,8,9,10] rfl (by kernel_rfl) rfl (pv_fieldAddr runUnderlying218 rfl sizeOf3 rfl rfl) (trw_read 4 [7,8,9,10] rfl (by kernel_rfl) rfl (rv_load isAgg3 rfl (by with_reducible repeat constructor) rfl) ?_)))))
     refine trw_read 6 [7,8,9,10] rfl (by kernel_rfl) rfl (rv_load isAgg3 rfl (by with_reducible repeat constructor) rfl) ?_
     refine trw_pure 7 [8,9,10] rfl (by kernel_rfl) rfl (pv_add rfl rfl) (twn 8 [9,10] rfl (by kernel_rfl) rfl rfl (trw_pure 9 [10] rfl (by kernel_rfl) rfl (pv_fieldAddr runUnderlying187 rfl sizeOf3 rfl rfl) (trw_one 10 (by kernel_rfl) ?_)))
     refine trwat_eff0 rfl rfl rfl (ef_store sizeOf3 rfl rfl (by first | rfl | assumption) (by with_reducible repeat constructor) rfl ?_)
     refine ⟨?_, trivial⟩
     refine trw_nil (tr_keep (ks := [0,1,2,8]) (.cons rfl (.cons rfl (.cons rfl (.cons rfl .nil)))) fun base => ?_)
     refine tr_draww (rem := [0,1,2,3,4,5,6,7]) (by kernel_rfl) (by kernel_rfl) rfl ?_
     refine twm 0 [4,5,6,7] rfl (by kernel_rfl) rfl rfl (twm 1 [5,6,7] rfl (by kernel_rfl) rfl rfl (trw_pure 2 [3,5,6,7] rfl (by kernel_rfl) rfl (pv_fieldAddr runUnderlying218 rfl sizeOf3 rfl rfl) (twn 4 [5,6,7] rfl (by kernel_rfl) rfl rfl (trw_read 3 [5,6,7] rfl (by kernel_rfl) rfl (rv_load isAgg3 rfl (by with_reducible repeat constructor) rfl) ?_))))
     refine trw_pure 5 [6,7] rfl (by kernel_rfl) rfl (pv_indexAddr_a runUnderlying127 sizeOf125 rfl rfl (by omega) (by omega)) ?_
     refine trw_pure 6 [7] rfl (by kernel_rfl) rfl (pv_fieldAddr runUnderlying125 rfl sizeOf3 rfl rfl) (trw_one 7 (by kernel_rfl) ?_)
     refine trwat_eff0 rfl rfl rfl (ef_store_set sizeOf3 rfl rfl rfl (by with_reducible repeat constructor) (by simp only [List.length_append, cxC_length, List.length_set]; simp; omega) (show (PP ++ cxC cx ++ QQ).set _ _ = PP ++ cxC (cx.set k ((rowQ (cx.getD k (0, 0)).1).2.1, (cx.getD k (0, 0)).2)) ++ QQ from cx_set (k := k) (j := 0) hPP (by omega) (by decide) rfl) ?_)
     refine ⟨?_, trivial⟩
     refine trw_nil (tr_keep (ks := [0]) (.cons rfl .nil) fun base => ?_)
     have hm : mpsE e (rowQ (cx.getD k (0, 0)).1).1 = { e with a := e.a - (rowQ (cx.getD k (0, 0)).1).1, c := wI (e.c + (rowQ (cx.getD k (0, 0)).1).1) } := if_neg h3
     refine Tr.fold (me_fold (r := r) (e := mpsE e (rowQ (cx.getD k (0, 0)).1).1) (n := e.b.length) (v := v) (a := e.a - (rowQ (cx.getD k (0, 0)).1).1) (c := wI (e.c + (rowQ (cx.getD k (0, 0)).1).1)) (ct := e.ct) (cs := u8s e.b) hv (by rw [hm]) (by rw [hm]) (by rw [hm]) (by rw [hm]) (by rw [hm])) (by with_reducible repeat constructor) ?_
     refine tr_meet hK1 (mpsE e (rowQ (cx.getD k (0, 0)).1).1, cx.set k ((rowQ (cx.getD k (0, 0)).1).2.1, (cx.getD k (0, 0)).2)) (.cons rfl .nil) (holds_pure ⟨by unfold encQ; dsimp only; rw [if_pos h1, if_neg h2], hmp.1, hmp.2.1, by rw [hmp.2.2]⟩ (holds_of_picks (by with_reducible repeat constructor)))
  ·have hlp := lpsE_ok he hq1 hq2
   refine tr_seq (tr_seq (tr_draww (rem := [0,1,2,3,4,5,6]) (by kernel_rfl) (by kernel_rfl) rfl ?_))
   refine twm 0 [1,2,3,6] rfl (by kernel_rfl) rfl rfl (twn 1 [2,3,6] rfl (by kernel_rfl) rfl rfl (trw_pure 2 [3,6] rfl (by kernel_rfl) rfl (pv_fieldAddr runUnderlying187 rfl sizeOf3 rfl rfl) (trw_pure 4 [5,6] rfl (by kernel_rfl) rfl (pv_fieldAddr runUnderlying218 rfl sizeOf3 rfl rfl) (trw_read 3 [6] rfl (by kernel_rfl) rfl (rv_load isAgg3 rfl (by with_reducible repeat constructor) rfl) ?_))))
   refine trw_read 5 [6] rfl (by kernel_rfl) rfl (rv_load isAgg3 rfl (by with_reducible repeat constructor) rfl) ?_
   refine trw_pure 6 [] rfl (by kernel_rfl) rfl (pv_lss rfl rfl) (trw_nil (tr_keep (ks := [0,1,2,8,91]) (.cons rfl (.cons rfl (.cons rfl (.cons rfl (.cons rfl .nil))))) fun base => ?_))
   refine tr_if rfl (fun h4 => ?_) (fun h4 => ?_)
   ·refine tr_draww (rem := [0,1,2,3,4,5,6,7,8,9,10]) (by kernel_rfl) (by kernel_rfl) rfl ?_
    refine twm 0 [8,9,10] rfl (by kernel_rfl) rfl rfl (twm 1 [2,3,4,7,8,9,10] rfl (by kernel_rfl) rfl rfl (twn 2 [3,4,7,8,9,10] rfl (by kernel_rfl) rfl rfl (trw_pure 3 [4,7,8,9,10] rfl (by kernel_rfl) rfl (pv_fieldAddr runUnderlying187 rfl sizeOf3 rfl rfl) (trw_pure 5 [6,7,8,9,10] rfl (by kernel_rfl) rfl (pv_fieldAddr runUnderlying218 rfl sizeOf3 rfl rfl) (trw_read 4 [7,8,9,10] rfl (by kernel_rfl) rfl (rv_load isAgg3 rfl (by with_reducible repeat constructor) rfl) ?_)))))
    refine trw_read 6 [7,8,9,10] rfl (by kernel_rfl) rfl (rv_load isAgg3 rfl (by with_reducible repeat constructor) rfl) ?_
    refine trw_pure 7 [8,9,10] rfl (by kernel_rfl) rfl (pv_add rfl rfl) (twn 8 [9,10] rfl (by kernel_rfl) rfl rfl (trw_pure 9 [10] rfl (by kernel_rfl) rfl (pv_fieldAddr runUnderlying187 rfl sizeOf3 rfl rfl) (trw_one 10 (by kernel_rfl) ?_)))
    refine trwat_eff0 rfl rfl rfl (ef_store sizeOf3 rfl rfl (by first | rfl | assumption) (by with_reducible repeat constructor) rfl ?_)
    refine ⟨?_, trivial⟩
    refine trw_nil (tr_keep (ks := [0,1,2,8]) (.cons rfl (.cons rfl (.cons rfl (.cons rfl .nil)))) fun base => ?_)
    refine tr_seq (tr_seq (tr_region (trl_pv (pv_fieldAddr runUnderlying218 rfl sizeOf4 rfl rfl) (trl_val (rv_load isAgg4 rfl (by with_reducible repeat constructor) rfl) ?_))))
    refine trl_nil (tr_ifb rfl (fun h5 => ?_) (fun h5 => ?_))
    ·refine tr_draww (rem := [0,1,2,3,4,5,6,7,8,9,10,11,12]) (by kernel_rfl) (by kernel_rfl) rfl ?_
     refine twm 0 [9,10,11,12] rfl (by kernel_rfl) rfl rfl (twm 1 [10,11,12] rfl (by kernel_rfl) rfl rfl (twm 2 [4,5,6,7,8,10,11,12] rfl (by kernel_rfl) rfl rfl (twm 3 [5,6,7,8,10,11,12] rfl (by kernel_rfl) rfl rfl (twn 4 [5,6,7,8,10,11,12] rfl (by kernel_rfl) rfl rfl (trw_pure 5 [6,7,8,10,11,12] rfl (by kernel_rfl) rfl (pv_indexAddr_a runUnderlying127 sizeOf125 rfl rfl (by omega) (by omega)) ?_)))))
     refine trw_pure 6 [7,8,10,11,12] rfl (by kernel_rfl) rfl (pv_fieldAddr runUnderlying125 rfl sizeOf3 rfl rfl) (twn 9 [10,11,12] rfl (by kernel_rfl) rfl rfl (trw_read 7 [8,10,11,12] rfl (by kernel_rfl) rfl (rv_load isAgg3 rfl (by with_reducible repeat constructor) (show (PP ++ cxC cx ++ QQ)[_]? = some (.int .i64 (cx.getD k (0, 0)).2) from cx_get (k := k) (j := 1) hPP (by first | omega | (simp; omega)) rfl)) ?_))
     refine trw_pure 8 [10,11,12] rfl (by kernel_rfl) rfl (pv_sub rfl rfl) (trw_pure 10 [11,12] rfl (by kernel_rfl) rfl (pv_indexAddr_a runUnderlying127 sizeOf125 rfl rfl (by omega) (by omega)) ?_)
     refine trw_pure 11 [12] rfl (by kernel_rfl) rfl (pv_fieldAddr runUnderlying125 rfl sizeOf3 rfl rfl) (trw_one 12 (by kernel_rfl) ?_)
     refine trwat_eff0 rfl rfl rfl (ef_store_set sizeOf3 rfl rfl rfl (by with_reducible repeat constructor) (by simp only [List.length_append, cxC_length, List.length_set]; simp; omega) (show (PP ++ cxC cx ++ QQ).set _ _ = PP ++ cxC (cx.set k ((cx.getD k (0, 0)).1, wI (1 - (cx.getD k (0, 0)).2))) ++ QQ from cx_set (k := k) (j := 1) hPP (by omega) (by decide) rfl) ?_)
     refine ⟨?_, trivial⟩
     refine trw_nil (tr_keep (ks := [0,1,2,8]) (.cons rfl (.cons rfl (.cons rfl (.cons rfl .nil)))) fun base => ?_)
     refine tr_draww (rem := [0,1,2,3,4,5,6,7]) (by kernel_rfl) (by kernel_rfl) rfl ?_
     refine twm 0 [4,5,6,7] rfl (by kernel_rfl) rfl rfl (twm 1 [5,6,7] rfl (by kernel_rfl) rfl rfl (trw_pure 2 [3,5,6,7] rfl (by kernel_rfl) rfl (pv_fieldAddr runUnderlying218 rfl sizeOf3 rfl rfl) (twn 4 [5,6,7] rfl (by kernel_rfl) rfl rfl (trw_read 3 [5,6,7] rfl (by kernel_rfl) rfl (rv_load isAgg3 rfl (by with_reducible repeat constructor) rfl) ?_))))
     refine trw_pure 5 [6,7] rfl (by kernel_rfl) rfl (pv_indexAddr_a runUnderlying127 sizeOf125 rfl rfl (by omega) (by omega)) ?_
     refine trw_pure 6 [7] rfl (by kernel_rfl) rfl (pv_fieldAddr runUnderlying125 rfl sizeOf3 rfl rfl) (trw_one 7 (by kernel_rfl) ?_)
     refine trwat_eff0 rfl rfl rfl (ef_store_set sizeOf3 rfl rfl rfl (by with_reducible repeat constructor) (by simp only [List.length_append, cxC_length, List.length_set]; simp; omega) (show (PP ++ cxC (cx.set k ((cx.getD k (0, 0)).1, wI (1 - (cx.getD k (0, 0)).2))) ++ QQ).set _ _ = PP ++ cxC ((cx.set k ((cx.getD k (0, 0)).1, wI (1 - (cx.getD k (0, 0)).2))).set k ((rowQ (cx.getD k (0, 0)).1).2.2.1, wI (1 - (cx.getD k (0, 0)).2))) ++ QQ from cx_set (k := k) (j := 0) hPP (by simp; omega) (by decide) (by rw [List.getD_eq_getElem?_getD, List.getElem?_set_self (by omega)]; rfl)) ?_)
     refine ⟨?_, trivial⟩
     refine trw_nil (tr_keep (ks := [0]) (.cons rfl .nil) fun base => ?_)
     rw [List.set_set]
     have hm : lpsE e (rowQ (cx.getD k (0, 0)).1).1 = { e with a := e.a - (rowQ (cx.getD k (0, 0)).1).1, c := wI (e.c + (rowQ (cx.getD k (0, 0)).1).1) } := if_pos h4
     refine Tr.fold (me_fold (r := r) (e := lpsE e (rowQ (cx.getD k (0, 0)).1).1) (n := e.b.length) (v := v) (a := e.a - (rowQ (cx.getD k (0, 0)).1).1) (c := wI (e.c + (rowQ (cx.getD k (0, 0)).1).1)) (ct := e.ct) (cs := u8s e.b) hv (by rw [hm]) (by rw [hm]) (by rw [hm]) (by rw [hm]) (by rw [hm])) (by with_reducible repeat constructor) ?_
     refine tr_meet hK1 (lpsE e (rowQ (cx.getD k (0, 0)).1).1, cx.set k ((rowQ (cx.getD k (0, 0)).1).2.2.1, wI (1 - (cx.getD k (0, 0)).2))) (.cons rfl .nil) (holds_pure ⟨by unfold encQ; dsimp only; rw [if_neg h1, if_pos (of_decide_eq_true h5)], hlp.1, hlp.2.1, by rw [hlp.2.2]⟩ (holds_of_picks (by with_reducible repeat constructor)))
    ·refine tr_skip (tr_draww (rem := [0,1,2,3,4,5,6,7]) (by kernel_rfl) (by kernel_rfl) rfl ?_)
     refine twm 0 [4,5,6,7] rfl (by kernel_rfl) rfl rfl (twm 1 [5,6,7] rfl (by kernel_rfl) rfl rfl (trw_pure 2 [3,5,6,7] rfl (by kernel_rfl) rfl (pv_fieldAddr runUnderlying218 rfl sizeOf3 rfl rfl) (twn 4 [5,6,7] rfl (by kernel_rfl) rfl rfl (trw_read 3 [5,6,7] rfl (by kernel_rfl) rfl (rv_load isAgg3 rfl (by with_reducible repeat constructor) rfl) ?_))))
     refine trw_pure 5 [6,7] rfl (by kernel_rfl) rfl (pv_indexAddr_a runUnderlying127 sizeOf125 rfl rfl (by omega) (by omega)) ?_
     refine trw_pure 6 [7] rfl (by kernel_rfl) rfl (pv_fieldAddr runUnderlying125 rfl sizeOf3 rfl rfl) (trw_one 7 (by kernel_rfl) ?_)
     refine trwat_eff0 rfl rfl rfl (ef_store_set sizeOf3 rfl rfl rfl (by with_reducible repeat constructor) (by simp only [List.length_append, cxC_length, List.length_set]; simp; omega) (show (PP ++ cxC cx ++ QQ).set _ _ = PP ++ cxC (cx.set k ((rowQ (cx.getD k (0, 0)).1).2.2.1, (cx.getD k (0, 0)).2)) ++ QQ from cx_set (k := k) (j := 0) hPP (by omega) (by decide) rfl) ?_)
     refine ⟨?_, trivial⟩
     refine trw_nil (tr_keep (ks := [0]) (.cons rfl .nil) fun base => ?_)
     have hm : lpsE e (rowQ (cx.getD k (0, 0)).1).1 = { e with a := e.a - (rowQ (cx.getD k (0, 0)).1).1, c := wI (e.c + (rowQ (cx.getD k (0, 0)).1).1) } := if_pos h4
     refine Tr.fold (me_fold (r := r) (e := lpsE e (rowQ (cx.getD k (0, 0)).1).1) (n := e.b.length) (v := v) (a := e.a - (rowQ (cx.getD k (0, 0)).1).1) (c := wI (e.c + (rowQ (cx.getD k (0, 0)).1).1)) (ct := e.ct) (cs := u8s e.b) hv (by rw [hm]) (by rw [hm]) (by rw [hm]) (by rw [hm]) (by rw [hm])) (by with_reducible repeat constructor) ?_
     refine tr_meet hK1 (lpsE e (rowQ (cx.getD k (0, 0)).1).1, cx.set k ((rowQ (cx.getD k (0, 0)).1).2.2.1, (cx.getD k (0, 0)).2)) (.cons rfl .nil) (holds_pure ⟨by unfold encQ; dsimp only; rw [if_neg h1, if_neg (of_decide_eq_false h5)], hlp.1, hlp.2.1, by rw [hlp.2.2]⟩ (holds_of_picks (by with_reducible repeat constructor)))
   ·refine tr_region (tmv rfl (trl_pv (pv_fieldAddr runUnderlying218 rfl sizeOf3 rfl rfl) (trl_val (rv_load isAgg3 rfl (by with_reducible repeat constructor) rfl) ?_)))
    refine tnc rfl (trl_pv (pv_fieldAddr runUnderlying187 rfl sizeOf3 rfl rfl) (trl_eff0 (ef_store sizeOf3 rfl rfl (by first | rfl | assumption) (by with_reducible repeat constructor) rfl ?_)))
    refine trl_nil (tr_seq (tr_seq (tr_region (trl_pv (pv_fieldAddr runUnderlying218 rfl sizeOf4 rfl rfl) (trl_val (rv_load isAgg4 rfl (by with_reducible repeat constructor) rfl) ?_)))))
    refine trl_nil (tr_keep (ks := [0,1,2,8,108]) (.cons rfl (.cons rfl (.cons rfl (.cons rfl (.cons rfl .nil))))) fun base => ?_)
    refine tr_ifb rfl (fun h5 => ?_) (fun h5 => ?_)
    ·refine tr_draww (rem := [0,1,2,3,4,5,6,7,8,9,10,11,12]) (by kernel_rfl) (by kernel_rfl) rfl ?_
     refine twm 0 [9,10,11,12] rfl (by kernel_rfl) rfl rfl (twm 1 [10,11,12] rfl (by kernel_rfl) rfl rfl (twm 2 [4,5,6,7,8,10,11,12] rfl (by kernel_rfl) rfl rfl (twm 3 [5,6,7,8,10,11,12] rfl (by kernel_rfl) rfl rfl (twn 4 [5,6,7,8,10,11,12] rfl (by kernel_rfl) rfl rfl (trw_pure 5 [6,7,8,10,11,12] rfl (by kernel_rfl) rfl (pv_indexAddr_a runUnderlying127 sizeOf125 rfl rfl (by omega) (by omega)) ?_)))))
     refine trw_pure 6 [7,8,10,11,12] rfl (by kernel_rfl) rfl (pv_fieldAddr runUnderlying125 rfl sizeOf3 rfl rfl) (twn 9 [10,11,12] rfl (by kernel_rfl) rfl rfl (trw_read 7 [8,10,11,12] rfl (by kernel_rfl) rfl (rv_load isAgg3 rfl (by with_reducible repeat constructor) (show (PP ++ cxC cx ++ QQ)[_]? = some (.int .i64 (cx.getD k (0, 0)).2) from cx_get (k := k) (j := 1) hPP (by first | omega | (simp; omega)) rfl)) ?_))
     refine trw_pure 8 [10,11,12] rfl (by kernel_rfl) rfl (pv_sub rfl rfl) (trw_pure 10 [11,12] rfl (by kernel_rfl) rfl (pv_indexAddr_a runUnderlying127 sizeOf125 rfl rfl (by omega) (by omega)) ?_)
     refine trw_pure 11 [12] rfl (by kernel_rfl) rfl (pv_fieldAddr runUnderlying125 rfl sizeOf3 rfl rfl) (trw_one 12 (by kernel_rfl) ?_)
     refine trwat_eff0 rfl rfl rfl (ef_store_set sizeOf3 rfl rfl rfl (by with_reducible repeat constructor) (by simp only [List.length_append, cxC_length, List.length_set]; simp; omega) (show (PP ++ cxC cx ++ QQ).set _ _ = PP ++ cxC (cx.set k ((cx.getD k (0, 0)).1, wI (1 - (cx.getD k (0, 0)).2))) ++ QQ from cx_set (k := k) (j := 1) hPP (by omega) (by decide) rfl) ?_)
     refine ⟨?_, trivial⟩
     refine trw_nil (tr_keep (ks := [0,1,2,8]) (.cons rfl (.cons rfl (.cons rfl (.cons rfl .nil)))) fun base => ?_)
     refine tr_draww (rem := [0,1,2,3,4,5,6,7]) (by kernel_rfl) (by kernel_rfl) rfl ?_
     refine twm 0 [4,5,6,7] rfl (by kernel_rfl) rfl rfl (twm 1 [5,6,7] rfl (by kernel_rfl) rfl rfl (trw_pure 2 [3,5,6,7] rfl (by kernel_rfl) rfl (pv_fieldAddr runUnderlying218 rfl sizeOf3 rfl rfl) (twn 4 [5,6,7] rfl (by kernel_rfl) rfl rfl (trw_read 3 [5,6,7] rfl (by kernel_rfl) rfl (rv_load isAgg3 rfl (by with_reducible repeat constructor) rfl) ?_))))
     refine trw_pure 5 [6,7] rfl (by kernel_rfl) rfl (pv_indexAddr_a runUnderlying127 sizeOf125 rfl rfl (by omega) (by omega)) ?_
     refine trw_pure 6 [7] rfl (by kernel_rfl) rfl (pv_fieldAddr runUnderlying125 rfl sizeOf3 rfl rfl) (trw_one 7 (by kernel_rfl) ?_)
     refine trwat_eff0 rfl rfl rfl (ef_store_set sizeOf3 rfl rfl rfl (by with_reducible repeat constructor) (by simp only [List.length_append, cxC_length, List.length_set]; simp; omega) (show (PP ++ cxC (cx.set k ((cx.getD k (0, 0)).1, wI (1 - (cx.getD k (0, 0)).2))) ++ QQ).set _ _ = PP ++ cxC ((cx.set k ((cx.getD k (0, 0)).1, wI (1 - (cx.getD k (0, 0)).2))).set k ((rowQ (cx.getD k (0, 0)).1).2.2.1, wI (1 - (cx.getD k (0, 0)).2))) ++ QQ from cx_set (k := k) (j := 0) hPP (by simp; omega) (by decide) (by rw [List.getD_eq_getElem?_getD, List.getElem?_set_self (by omega)]; rfl)) ?_)
     refine ⟨?_, trivial⟩
     refine trw_nil (tr_keep (ks := [0]) (.cons rfl .nil) fun base => ?_)
     rw [List.set_set]
     have hm : lpsE e (rowQ (cx.getD k (0, 0)).1).1 = { e with a := (rowQ (cx.getD k (0, 0)).1).1 } := if_neg h4
     refine Tr.fold (me_fold (r := r) (e := lpsE e (rowQ (cx.getD k (0, 0)).1).1) (n := e.b.length) (v := v) (a := (rowQ (cx.getD k (0, 0)).1).1) (c := e.c) (ct := e.ct) (cs := u8s e.b) hv (by rw [hm]) (by rw [hm]) (by rw [hm]) (by rw [hm]) (by rw [hm])) (by with_reducible repeat constructor) ?_
     refine tr_meet hK1 (lpsE e (rowQ (cx.getD k (0, 0)).1).1, cx.set k ((rowQ (cx.getD k (0, 0)).1).2.2.1, wI (1 - (cx.getD k (0, 0)).2))) (.cons rfl .nil) (holds_pure ⟨by unfold encQ; dsimp only; rw [if_neg h1, if_pos (of_decide_eq_true h5)], hlp.1, hlp.2.1, by rw [hlp.2.2]⟩ (holds_of_picks (by with_reducible repeat constructor)))
    ·refine tr_skip (tr_draww (rem := [0,1,2,3,4,5,6,7]) (by kernel_rfl) (by kernel_rfl) rfl ?_)
     refine twm 0 [4,5,6,7] rfl (by kernel_rfl) rfl rfl (twm 1 [5,6,7] rfl (by kernel_rfl) rfl rfl (trw_pure 2 [3,5,6,7] rfl (by kernel_rfl) rfl (pv_fieldAddr runUnderlying218 rfl sizeOf3 rfl rfl) (twn 4 [5,6,7] rfl (by kernel_rfl) rfl rfl (trw_read 3 [5,6,7] rfl (by kernel_rfl) rfl (rv_load isAgg3 rfl (by with_reducible repeat constructor) rfl) ?_))))
     refine trw_pure 5 [6,7] rfl (by kernel_rfl) rfl (pv_indexAddr_a runUnderlying127 sizeOf125 rfl rfl (by omega) (by omega)) ?_
     refine trw_pure 6 [7] rfl (by kernel_rfl) rfl (pv_fieldAddr runUnderlying125 rfl sizeOf3 rfl rfl) (trw_one 7 (by kernel_rfl) ?_)
     refine trwat_eff0 rfl rfl rfl (ef_store_set sizeOf3 rfl rfl rfl (by with_reducible repeat constructor) (by simp only [List.length_append, cxC_length, List.length_set]; simp; omega) (show (PP ++ cxC cx ++ QQ).set _ _ = PP ++ cxC (cx.set k ((rowQ (cx.getD k (0, 0)).1).2.2.1, (cx.getD k (0, 0)).2)) ++ QQ from cx_set (k := k) (j := 0) hPP (by omega) (by decide) rfl) ?_)
     refine ⟨?_, trivial⟩
     refine trw_nil (tr_keep (ks := [0]) (.cons rfl .nil) fun base => ?_)
     have hm : lpsE e (rowQ (cx.getD k (0, 0)).1).1 = { e with a := (rowQ (cx.getD k (0, 0)).1).1 } := if_neg h4
     refine Tr.fold (me_fold (r := r) (e := lpsE e (rowQ (cx.getD k (0, 0)).1).1) (n := e.b.length) (v := v) (a := (rowQ (cx.getD k (0, 0)).1).1) (c := e.c) (ct := e.ct) (cs := u8s e.b) hv (by rw [hm]) (by rw [hm]) (by rw [hm]) (by rw [hm]) (by rw [hm])) (by with_reducible repeat constructor) ?_
     refine tr_meet hK1 (lpsE e (rowQ (cx.getD k (0, 0)).1).1, cx.set k ((rowQ (cx.getD k (0, 0)).1).2.2.1, (cx.getD k (0, 0)).2)) (.cons rfl .nil) (holds_pure ⟨by unfold encQ; dsimp only; rw [if_neg h1, if_neg (of_decide_eq_false h5)], hlp.1, hlp.2.1, by rw [hlp.2.2]⟩ (holds_of_picks (by with_reducible repeat constructor)))
 ·intro ⟨e2, cx2⟩ base
  refine Tr.pure fun ⟨hE, ha1, ha2, hbl⟩ => ?_
  dsimp only at hE ha1 ha2 hbl ⊢
  rw [hE]
  dsimp only
  refine tr_block (tr_while (α := MqE × Nat) ((e2, 0)) (fun x => 16 - x.2) (fun _ => [(0, .pointer (some ⟨r, 0, none⟩))]) (fun x => [pure' (renF 16 e2 = renF (16 - x.2) x.1 ∧ 1 ≤ x.1.a ∧ x.1.a < 65536 ∧ (2 : Int) ^ x.2 ≤ x.1.a ∧ x.2 ≤ 15 ∧ x.1.b.length ≤ e.b.length + x.2 ∧ e.b.length ≤ x.1.b.length), ME r x.1, pt rc TC (PP ++ cxC cx2 ++ QQ)]) (ks := [0]) (.cons rfl .nil) (holds_pure ⟨rfl, ha1, ha2, by dsimp only; rw [Int.pow_zero]; exact ha1, by simp, by simp [hbl], by simp [hbl]⟩ (holds_of_picks (by with_reducible repeat constructor))) ?_)
  intro ⟨e3, i⟩ base ih0
  refine Tr.pure fun ⟨hR, hb1, hb2, hb3, hb4, hb5, hb6⟩ => ?_
  dsimp only at hR hb1 hb2 hb3 hb4 hb5 hb6 ⊢
  refine Tr.unfold (me_open (r := r) (e := e3)) (by with_reducible repeat constructor) fun v3 hv3 => ?_
  dsimp only [List.cons_append, List.nil_append]
  refine tr_seq (tr_seq (tr_region (tmv rfl (tnc rfl (trl_pv (pv_fieldAddr runUnderlying187 rfl sizeOf3 rfl rfl) (trl_val (rv_load isAgg3 rfl (by with_reducible repeat constructor) rfl) ?_))))))
  refine trl_pv (pv_lss rfl rfl) (trl_nil (tr_if rfl (fun h6 => ?_) (fun h6 => ?_)))
  ·have hi15 : i < 15 := Nat.lt_of_not_le fun h => by have e15 : i = 15 := (by omega); rw [e15, show (2 : Int) ^ 15 = 32768 from by decide] at hb3; omega
   have hst := renStep_len e3
   have hR2 : renF (16 - i) e3 = renF (16 - (i + 1)) (renStep e3) := by rw [show 16 - i = (16 - (i + 1)) + 1 by omega]; simp only [renF]; rw [if_pos h6]
   rw [hR2] at hR
   refine tr_skip (tr_block (tr_seq (tr_draww (rem := [0,1,2,3,4,5,6,7,8,9,10,11,12,13,14,15,16,17]) (by kernel_rfl) (by kernel_rfl) rfl ?_)))
   refine twm 0 [12,13,14,15,16,17] rfl (by kernel_rfl) rfl rfl (twm 1 [15,16,17] rfl (by kernel_rfl) rfl rfl (twm 2 [3,4,5,6,12,13,14,15,16,17] rfl (by kernel_rfl) rfl rfl (twn 3 [4,5,6,12,13,14,15,16,17] rfl (by kernel_rfl) rfl rfl (trw_pure 4 [5,6,12,13,14,15,16,17] rfl (by kernel_rfl) rfl (pv_fieldAddr runUnderlying187 rfl sizeOf3 rfl rfl) (twm 7 [8,9,10,11,12,13,14,15,16,17] rfl (by kernel_rfl) rfl rfl (twn 8 [9,10,11,12,13,14,15,16,17] rfl (by kernel_rfl) rfl rfl (trw_pure 9 [10,11,12,13,14,15,16,17] rfl (by kernel_rfl) rfl (pv_fieldAddr runUnderlying187 rfl sizeOf3 rfl rfl) (trw_read 5 [6,12,13,14,15,16,17] rfl (by kernel_rfl) rfl (rv_load isAgg3 rfl (by with_reducible repeat constructor) rfl) ?_))))))))
   refine trw_pure 6 [12,13,14,15,16,17] rfl (by kernel_rfl) rfl (pv_mulI rfl rfl (by omega) (by omega)) ?_
   refine trw_read 10 [11,12,13,14,15,16,17] rfl (by kernel_rfl) rfl (rv_load isAgg3 rfl (by with_reducible repeat constructor) rfl) ?_
   refine trw_pure 11 [15,16,17] rfl (by kernel_rfl) rfl (pv_mul rfl rfl) (twn 12 [13,14,15,16,17] rfl (by kernel_rfl) rfl rfl (trw_pure 13 [14,15,16,17] rfl (by kernel_rfl) rfl (pv_fieldAddr runUnderlying187 rfl sizeOf3 rfl rfl) (trw_one 14 (by kernel_rfl) ?_)))
   refine trwat_eff0 rfl rfl rfl (ef_store sizeOf3 rfl rfl (by first | rfl | assumption) (by with_reducible repeat constructor) rfl ?_)
   refine ⟨?_, trivial⟩
   refine twn 15 [16,17] rfl (by kernel_rfl) rfl rfl (trw_pure 16 [17] rfl (by kernel_rfl) rfl (pv_fieldAddr runUnderlying187 rfl sizeOf3 rfl rfl) (trw_one 17 (by kernel_rfl) ?_))
   refine trwat_eff0 rfl rfl rfl (ef_store sizeOf3 rfl rfl (by first | rfl | assumption) (by with_reducible repeat constructor) rfl ?_)
   refine ⟨?_, trivial⟩
   refine trw_nil (tr_keep (ks := [0]) (.cons rfl .nil) fun base => ?_)
   refine tr_seq (tr_region (tmv rfl (tnc rfl (trl_pv (pv_fieldAddr runUnderlying187 rfl sizeOf3 rfl rfl) (trl_val (rv_load isAgg3 rfl (by with_reducible repeat constructor) rfl) ?_)))))
   refine trl_pv (pv_sub rfl rfl) (tnc rfl (trl_pv (pv_fieldAddr runUnderlying187 rfl sizeOf3 rfl rfl) (trl_eff0 (ef_store sizeOf3 rfl rfl (by first | rfl | assumption) (by with_reducible repeat constructor) rfl ?_))))
   refine trl_nil (tr_keep (ks := [0]) (.cons rfl .nil) fun base => ?_)
   refine tr_seq (tr_region (tmv rfl (tnc rfl (trl_pv (pv_fieldAddr runUnderlying187 rfl sizeOf3 rfl rfl) (trl_val (rv_load isAgg3 rfl (by with_reducible repeat constructor) rfl) ?_)))))
   refine trl_pv (pv_eql rfl rfl) (trl_nil (tr_if rfl (fun h7 => ?_) (fun h7 => ?_)))
   ·refine Tr.fold (me_fold (r := r) (e := ⟨2 * e3.a, wI (2 * e3.c), wI (e3.ct - 1), e3.b⟩) (n := e3.b.length) (v := v3) (a := 2 * e3.a) (c := wI (2 * e3.c)) (ct := wI (e3.ct - 1)) (cs := u8s e3.b) hv3 rfl rfl rfl rfl rfl) (by with_reducible repeat constructor) ?_
    refine tr_region (tmv rfl (trl_eff (ef_call rfl rfl call104 (q_out (r := r) (e := ⟨2 * e3.a, wI (2 * e3.c), wI (e3.ct - 1), e3.b⟩) (by dsimp only; omega) (by dsimp only; omega)) (by with_reducible repeat constructor) fun x162 hx162 => ?_)))
    dsimp only [List.cons_append, List.nil_append]
    refine trl_nil (tr_keep (ks := [0]) (.cons rfl .nil) fun base => ?_)
    refine tr_inBlock ?_
    have hrs : renStep e3 = outF ⟨2 * e3.a, wI (2 * e3.c), wI (e3.ct - 1), e3.b⟩ := if_pos h7
    refine tr_again ih0 (renStep e3, i + 1) (by first | omega | (dsimp only; omega)) (.cons rfl .nil) (by rw [hrs] at hst hR ⊢; exact holds_pure ⟨hR, by dsimp only; omega, by dsimp only; omega, by dsimp only; rw [Int.pow_succ]; omega, by dsimp only; omega, by dsimp only; omega, by dsimp only; omega⟩ (holds_of_picks (by with_reducible repeat constructor)))
   ·refine tr_skip (tr_inBlock ?_)
    have hrs : renStep e3 = ⟨2 * e3.a, wI (2 * e3.c), wI (e3.ct - 1), e3.b⟩ := if_neg h7
    refine Tr.fold (me_fold (r := r) (e := ⟨2 * e3.a, wI (2 * e3.c), wI (e3.ct - 1), e3.b⟩) (n := e3.b.length) (v := v3) (a := 2 * e3.a) (c := wI (2 * e3.c)) (ct := wI (e3.ct - 1)) (cs := u8s e3.b) hv3 rfl rfl rfl rfl rfl) (by with_reducible repeat constructor) ?_
    refine tr_again ih0 (renStep e3, i + 1) (by first | omega | (dsimp only; omega)) (.cons rfl .nil) (by rw [hrs] at hst hR ⊢; exact holds_pure ⟨hR, by dsimp only; omega, by dsimp only; omega, by dsimp only; rw [Int.pow_succ]; omega, by dsimp only; omega, by dsimp only at hst ⊢; omega, by dsimp only at hst ⊢; omega⟩ (holds_of_picks (by with_reducible repeat constructor)))
  ·refine tr_exit rfl ?_
   have hR2 : renF (16 - i) e3 = e3 := by rw [show 16 - i = (16 - (i + 1)) + 1 by omega]; simp only [renF]; rw [if_neg h6]
   rw [hR2] at hR
   rw [hR]
   refine Tr.fold (me_fold (e := e3) hv3 rfl rfl rfl rfl rfl) (by with_reducible repeat constructor) ?_
   refine tr_end func136 rfl .nil (by kernel_rfl) .nil () rfl trivial (holds_of_picks (by with_reducible repeat constructor))
end Go.Proofs
