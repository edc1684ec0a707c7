/- Contracts of functions that the law reaches, in every memory (part Rtree3). -/
import Derived.Test.YtbmfgngjcpmjeaaGreatRtree2
set_option linter.unusedVariables false
set_option linter.unusedSimpArgs false
set_option maxRecDepth 10000
namespace Go.Proofs
open Go.Eng Tryz
theorem rtree_way {r : Nat} {sh : List (Nat × Nat)} {T : List Nd} {fresh : Bool} {v : Value} {k : Nat} {s0 : Nat × Nat} (hF : Fine sh) (hE : Ends1 sh) (hT : T.length = total sh) (hz0 : sh[0]? = some s0) (hk : k < s0.1 * s0.2) :
    Spec Tryz.prog 81 [.pointer (some ⟨r, 0, none⟩), .int .i64 (k : Nat)] [pt r 159 [v, .int .i64 (leavesOf sh : Nat), .bool fresh], Sl 162 4 (total sh) v (rcells T (ups sh 0))]
    (fun v' : Value => ⟨v', one? v' = true, [pt r 159 [v, .int .i64 (leavesOf sh : Nat), .bool fresh], Sl 162 4 (total sh) v (rcells T (ups sh 0)), Sl 3 1 (tway sh (k : Int)).length v' (nats (tway sh (k : Int)))]⟩) := by
 refine spec_of_tr func81 rfl ntmps81 (by kernel_rfl) ?_
 refine tr_seq (tr_region (tas rfl (trl_nil (tr_seq (tr_region (tas rfl (trl_nil ?_)))))))
 refine tr_empty 3 1 none ?_
 refine tr_seq (tr_block (tr_while (α := Nat × Value) ((0, .slice none 0 0)) (fun x => sh.length - x.1) (fun x => [(0, .pointer (some ⟨r, 0, none⟩)), (1, .int .i64 (curOf (fpath sh 0 k) x.1)), (5, x.2)]) (fun x => [pure' (one? x.2 = true ∧ x.1 ≤ sh.length), pt r 159 [v, .int .i64 (leavesOf sh : Nat), .bool fresh], Sl 162 4 (total sh) v (rcells T (ups sh 0)), Sl 3 1 x.1 x.2 (nats ((fpath sh 0 k).take x.1).reverse)]) (ks := [0,1,5]) (.cons rfl (.cons (keep_int rfl (cur_zero hz0).symm) (.cons rfl .nil))) (holds_eq (As' := [pure' _, pt r 159 [v, .int .i64 (leavesOf sh : Nat), .bool fresh], Sl 162 4 (total sh) v (rcells T (ups sh 0)), Sl 3 1 0 (.slice none 0 0) []]) (holds_pure ⟨rfl, Nat.zero_le _⟩ (holds_of_picks (by with_reducible repeat constructor))) rfl) ?_))
 intro ⟨i, vl⟩ base ih0
 refine Tr.pure fun ⟨hov, hi⟩ => ?_
 dsimp only at hov hi ⊢
 refine tr_seq (tr_seq (tr_region (tmv rfl (trl_pv (pv_geq rfl rfl) (trl_nil (tr_if rfl (fun h0 => ?_) (fun h0 => ?_)))))))
 ·refine tr_skip (tr_block (tr_seq ?_))
  obtain ⟨f, hf⟩ := cur_get (show 0 ≤ curOf (fpath sh 0 k) i by omega)
  have hfl := (List.getElem?_eq_some_iff.1 hf).1
  rw [fpath_length] at hfl
  have hup := ups_fpath hF.1 hE hz0 hk hf
  rw [cur_some hf]
  have hft : f < total sh := by have := (List.getElem?_eq_some_iff.1 hup).1; rw [ups_length] at this; exact this
  obtain ⟨nd, hnd⟩ := get_some (l := T) (i := f) (by omega)
  have hl60 := hF.2.1
  have htt := total_fine hF
  refine tr_region (tmv rfl (trl_eff (ef_buildSlice runUnderlying38 sizeOf3 zeroValue3 rfl rfl rfl rfl rfl (by dsimp only [flatC, cellsL, List.toList_toArray, List.cons_append, List.nil_append, List.append_nil]) fun r9 => ?_)))
  refine TrL.fold (sl_of_pt (n := 1) (sz := 1) rfl) (by with_reducible repeat constructor) ?_
  refine tmv rfl (trl_eff (ef_append runUnderlying38 runUnderlying38 typeInfo3 sizeOf3 zeroValue3 rfl rfl rfl (by with_reducible repeat constructor) (reads_sl (by with_reducible repeat constructor)) (by simp [fpath_length]; omega) one_nats (by rw [show Tryz.t3.bytes = 8 from rfl]; omega) fun v11 ho11 => ?_))
  refine tas rfl (trl_nil (tr_region (tmv rfl (tnc rfl (trl_pv (pv_fieldAddr runUnderlying159 rfl sizeOf157 rfl rfl) (trl_val (rv_load isAgg157 rfl (by with_reducible repeat constructor) rfl) ?_))))))
  refine tmv rfl (trl_val (rv_indexAddr_sl runUnderlying157 sizeOf162 rfl rfl (by with_reducible repeat constructor) (by omega) (by omega)) ?_)
  refine trl_pv (pv_fieldAddr runUnderlying162 rfl sizeOf3 rfl rfl) (trl_val (rv_load_sl isAgg3 rfl (by with_reducible repeat constructor) (rc_get (i := f) hnd hup rfl)) ?_)
  refine tas rfl (trl_nil (tr_keep (ks := [0,1,5]) (.cons rfl (.cons rfl (.cons rfl .nil))) fun base => ?_))
  refine tr_inBlock (tr_again ih0 (i + 1, v11) (by first | omega | (dsimp only; omega)) (.cons rfl (.cons rfl (.cons rfl .nil))) (by dsimp only; rw [nats_snoc hf, Nat.add_comm i 1]; exact holds_pure ⟨ho11, by omega⟩ (holds_of_picks (by with_reducible repeat constructor))))
 ·refine tr_exit rfl (tr_seq (tr_region (tmv rfl (tas rfl (trl_nil ?_)))))
  have hie : i = sh.length := cur_end (show ¬ 0 ≤ curOf (fpath sh 0 k) i by omega) (by rw [fpath_length]; exact hi)
  subst hie
  rw [tway_some hz0 hk, List.length_reverse, fpath_length, List.take_of_length_le (by rw [fpath_length]; exact Nat.le_refl _)]
  refine tr_ret func81 rfl .nil (by kernel_rfl) (.tmp rfl .nil) vl rfl hov (holds_of_picks (by with_reducible repeat constructor))
end Go.Proofs
