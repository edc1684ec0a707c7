/- Contracts of functions that the law reaches, in every memory (part Q10). -/
import Derived.Test.YtbmfgngjcpmjeaaGreatQ9
import Derived.Test.YtbmfgngjcpmjeaaGreatPlainD
import Derived.Test.YtbmfgngjcpmjeaaGreatEngF
set_option linter.unusedVariables false
set_option linter.unusedSimpArgs false
set_option maxRecDepth 10000
namespace Go.Proofs
open Go.Eng Tryz
theorem zeros_i (n : Nat) : zerosL [.int .i64 0] n = i64s (List.replicate n 0) := by
  induction n with
  | zero => rfl
  | succ n ih => simp only [zerosL, List.replicate_succ, ih]; rfl
theorem zeros_b (n : Nat) : zerosL [.bool false] n = bools (List.replicate n false) := by
  induction n with
  | zero => rfl
  | succ n ih => simp only [zerosL, List.replicate_succ, ih]; rfl
def cbP (g : Cg) (c : Cd) (t : List Value) : List SL := [pt g.r 133 (cdH g ++ cxC c.cx ++ t), Sl 3 1 (g.w * g.h) g.m (i64s g.mag), Sl 3 1 (g.w * g.h) g.n (i64s c.neg), Sl 4 1 (g.w * g.h) g.s (bools c.sig), Sl 4 1 (g.w * g.h) g.e (bools c.seen), Sl 4 1 (g.w * g.h) g.a (bools c.again)]
def CB (g : Cg) (c : Cd) (t : List Value) : SL := stars (cbP g c t)
theorem cb_open {g : Cg} {c : Cd} {t : List Value} : Unfold (CB g c t) (fun _ : Unit => True) (fun _ => cbP g c t) := fun F w N h => ⟨(), trivial, Holds.stars.1 h⟩
theorem cb_fold {g : Cg} {c : Cd} {t : List Value} : Fold (cbP g c t) (CB g c t) := fun F w N h => Holds.stars.2 h
def gB (w h : Nat) (band style : Int) (x : Nat × Nat × Nat × Nat × Nat × Nat) : Cg :=
  ⟨x.1, w, h, band, style, .slice (some ⟨x.2.1, 0, none⟩) (w * h) (w * h), .slice (some ⟨x.2.2.1, 0, none⟩) (w * h) (w * h), .slice (some ⟨x.2.2.2.1, 0, none⟩) (w * h) (w * h), .slice (some ⟨x.2.2.2.2.1, 0, none⟩) (w * h) (w * h), .slice (some ⟨x.2.2.2.2.2, 0, none⟩) (w * h) (w * h), false, 0, 0, List.replicate (w * h) 0⟩
theorem gB_ok {w h : Nat} {band style : Int} (hw1 : 1 ≤ w) (hw : w ≤ 64) (hh1 : 1 ≤ h) (hh : h ≤ 64) (x : Nat × Nat × Nat × Nat × Nat × Nat) : GOk (gB w h band style x) :=
  ⟨.inr ⟨_, _, rfl, Nat.le_refl _⟩, .inr ⟨_, _, rfl, Nat.le_refl _⟩, .inr ⟨_, _, rfl, Nat.le_refl _⟩, .inr ⟨_, _, rfl, Nat.le_refl _⟩, .inr ⟨_, _, rfl, Nat.le_refl _⟩, hw1, hw, hh1, hh⟩
def cB (w h : Nat) (band style : Int) : Cd := ⟨w, h, band, style, List.replicate (w * h) 0, List.replicate (w * h) 0, List.replicate (w * h) false, List.replicate (w * h) false, List.replicate (w * h) false, freshCx, false, newE, newW⟩
def tB : List Value := [.bool false, .bool false, .pointer none, .pointer none, .pointer none, .pointer none]
theorem k_may {w h : Nat} {band style : Int} (hw1 : 1 ≤ w) (hw : w ≤ 64) (hh1 : 1 ≤ h) (hh : h ≤ 64) (b0 : 0 ≤ band) (b1 : band ≤ 3) (s0 : 0 ≤ style) (s1 : style ≤ 63) : Spec Tryz.prog 52 [.int .i64 (w : Nat), .int .i64 (h : Nat), .int .i64 band, .int .i64 style] [] (fun _ : Unit => ⟨.bool true, True, []⟩) := by
 refine spec_of_tr func52 rfl ntmps52 (by kernel_rfl) ?_
 refine tr_seq (tr_region (tas rfl (trl_nil (tr_seq (tr_region (tmv rfl (trl_pv (pv_geq rfl rfl) (tmv rfl (trl_pvg rfl (decide_eq_true (by omega)) (pv_move rfl) ?_)))))))))
 refine trl_pvg rfl (decide_eq_true (by omega)) (pv_leq rfl rfl) ?_
 refine trl_pv (pv_pick_t rfl (decide_eq_true (by omega)) rfl) ?_
 refine tmv rfl (trl_pvg rfl (decide_eq_true (by omega)) (pv_move rfl) ?_)
 refine trl_pvg rfl (decide_eq_true (by omega)) (pv_geq rfl rfl) ?_
 refine trl_pv (pv_pick_t rfl (decide_eq_true (by omega)) rfl) ?_
 refine tmv rfl (trl_pvg rfl (decide_eq_true (by omega)) (pv_move rfl) ?_)
 refine trl_pvg rfl (decide_eq_true (by omega)) (pv_leq rfl rfl) ?_
 refine trl_pv (pv_pick_t rfl (decide_eq_true (by omega)) rfl) ?_
 refine tmv rfl (trl_pvg rfl (decide_eq_true (by omega)) (pv_move rfl) ?_)
 refine trl_pvg rfl (decide_eq_true (by omega)) (pv_geq rfl rfl) ?_
 refine trl_pv (pv_pick_t rfl (decide_eq_true (by omega)) rfl) ?_
 refine tmv rfl (trl_pvg rfl (decide_eq_true (by omega)) (pv_move rfl) ?_)
 refine trl_pvg rfl (decide_eq_true (by omega)) (pv_leq rfl rfl) ?_
 refine trl_pv (pv_pick_t rfl (decide_eq_true (by omega)) rfl) ?_
 refine tmv rfl (trl_pvg rfl (decide_eq_true (by omega)) (pv_move rfl) ?_)
 refine trl_pvg rfl (decide_eq_true (by omega)) (pv_geq rfl rfl) ?_
 refine trl_pv (pv_pick_t rfl (decide_eq_true (by omega)) rfl) ?_
 refine tmv rfl (trl_pvg rfl (decide_eq_true (by omega)) (pv_move rfl) ?_)
 refine trl_pvg rfl (decide_eq_true (by omega)) (pv_leq rfl rfl) ?_
 refine trl_pv (pv_pick_t rfl (decide_eq_true (by omega)) rfl) ?_
 refine tas rfl (trl_nil (tr_keep (ks := [8]) (.cons rfl .nil) fun base => ?_))
 refine tr_ret func52 rfl .nil (by kernel_rfl) (.tmp rfl .nil) () (by show Value.bool _ = Value.bool true; rw [decide_eq_true (by omega)]) trivial (holds_of_picks (by with_reducible repeat constructor))
theorem k_isRaw {style k : Int} (hk0 : 0 ≤ k) (hk : k < 1000) : Spec Tryz.prog 56 [.int .i64 style, .int .i64 k] [] (fun _ : Unit => ⟨.bool (isRawF style k), True, []⟩) := by
 refine spec_of_tr func56 rfl ntmps56 (by kernel_rfl) ?_
 refine tr_seq (tr_region (tas rfl (trl_nil (tr_seq (tr_region (tmv rfl (trl_pv (pv_and rfl rfl) (trl_pv (pv_neq rfl rfl) (tmv rfl (trl_split 3 rfl (fun g8 => ?_) (fun g8 => ?_)))))))))))
 ·refine trl_pvg rfl (decide_eq_true g8) (pv_move rfl) (trl_pvg rfl (decide_eq_true g8) (pv_geq rfl rfl) (trl_pv (pv_pick_t rfl (decide_eq_true g8) rfl) (tmv rfl (trl_split 7 rfl (fun g12 => ?_) (fun g12 => ?_)))))
  ·refine trl_pvg rfl (decide_eq_true g12) (pv_move rfl) (trl_effg rfl (decide_eq_true g12) (ef_call rfl rfl call100 (r_kind hk0 hk) (by with_reducible repeat constructor) fun x14 hx14 => ?_))
   dsimp only [List.cons_append, List.nil_append]
   refine trl_pvg rfl (decide_eq_true g12) (pv_neq rfl rfl) (trl_pv (pv_pick_t rfl (decide_eq_true g12) rfl) (tas rfl (trl_nil (tr_keep (ks := [4]) (.cons rfl .nil) fun base => ?_))))
   refine tr_ret func56 rfl .nil (by kernel_rfl) (.tmp rfl .nil) () (by show Value.bool _ = Value.bool (isRawF style k); unfold isRawF; rw [decide_eq_true g8, decide_eq_true (show 10 ≤ k by omega)]; rfl) trivial (holds_of_picks (by with_reducible repeat constructor))
  ·refine trl_not rfl (decide_eq_false g12) ?_
   refine trl_not rfl (decide_eq_false g12) ?_
   refine trl_not rfl (decide_eq_false g12) ?_
   refine trl_pv (pv_pick_f rfl (decide_eq_false g12) rfl) (tas rfl (trl_nil (tr_keep (ks := [4]) (.cons rfl .nil) fun base => ?_)))
   refine tr_ret func56 rfl .nil (by kernel_rfl) (.tmp rfl .nil) () (by show Value.bool _ = Value.bool (isRawF style k); unfold isRawF; rw [decide_eq_true g8, decide_eq_false (show ¬ 10 ≤ k by omega)]; rfl) trivial (holds_of_picks (by with_reducible repeat constructor))
 ·refine trl_not rfl (decide_eq_false g8) ?_
  refine trl_not rfl (decide_eq_false g8) ?_
  refine trl_pv (pv_pick_f rfl (decide_eq_false g8) rfl) (tmv rfl (trl_not rfl rfl ?_))
  refine trl_not rfl rfl ?_
  refine trl_not rfl rfl ?_
  refine trl_pv (pv_pick_f rfl rfl rfl) (tas rfl (trl_nil (tr_keep (ks := [4]) (.cons rfl .nil) fun base => ?_)))
  refine tr_ret func56 rfl .nil (by kernel_rfl) (.tmp rfl .nil) () (by show Value.bool _ = Value.bool (isRawF style k); unfold isRawF; rw [decide_eq_false g8]; rfl) trivial (holds_of_picks (by with_reducible repeat constructor))
theorem k_begin {w h : Nat} {band style : Int} (hw : w ≤ 64) (hh : h ≤ 64) : Spec Tryz.prog 53 [.int .i64 (w : Nat), .int .i64 (h : Nat), .int .i64 band, .int .i64 style] []
    (fun x : Nat × Nat × Nat × Nat × Nat × Nat => ⟨(gB w h band style x).p, True, [CB (gB w h band style x) (cB w h band style) tB]⟩) := by
 refine spec_of_tr func53 rfl ntmps53 (by kernel_rfl) ?_
 have hm : w * h ≤ 64 * 64 := Nat.mul_le_mul hw hh
 refine tr_seq (tr_region (tas rfl (trl_nil (tr_seq (tr_region (tmv rfl (tmv rfl (trl_pv (pv_conv (pv_mulI rfl rfl (by omega) (by omega)) (congrArg (Value.int .i64) (show (w : Int) * (h : Int) = ((w * h : Nat) : Int) from by simp))) ?_))))))))
 refine tas rfl (trl_nil (tr_seq (tr_draww (rem := [0,1,2,3,4,5,6,7,8,9,10,11,12,13,14,15,16,17]) (by kernel_rfl) (by kernel_rfl) rfl ?_)))
 refine twm 0 [15,16,17] rfl (by kernel_rfl) rfl rfl (twm 1 [15,16,17] rfl (by kernel_rfl) rfl rfl (twm 2 [15,16,17] rfl (by kernel_rfl) rfl rfl (twm 3 [15,16,17] rfl (by kernel_rfl) rfl rfl (twm 4 [5,15,16,17] rfl (by kernel_rfl) rfl rfl (twm 6 [7,15,16,17] rfl (by kernel_rfl) rfl rfl (twm 8 [9,15,16,17] rfl (by kernel_rfl) rfl rfl (twm 10 [11,15,16,17] rfl (by kernel_rfl) rfl rfl (twm 12 [13,15,16,17] rfl (by kernel_rfl) rfl rfl (trw_free [5,7,9,11,13,14] (fun i v X => match i with | 5 | 7 => ∃ r, v = .slice (some ⟨r, 0, none⟩) (w * h) (w * h) ∧ X = [pt r 3 (zerosL [.int .i64 0] (w * h))] | 14 => v = .agg (cxC freshCx).toArray ∧ X = [] | _ => ∃ r, v = .slice (some ⟨r, 0, none⟩) (w * h) (w * h) ∧ X = [pt r 4 (zerosL [.bool false] (w * h))]) (by kernel_rfl) rfl ⟨⟨_, rfl, fun L K hK => ef_make (w * h) runUnderlying38 typeInfo3 sizeOf3 zeroValue3 rfl (by dsimp only [cellsL, List.toList_toArray]) rfl rfl rfl (by rw [show Tryz.t3.bytes = 8 from rfl]; omega) fun r => hK _ _ ⟨r, rfl, rfl⟩⟩, ⟨_, rfl, fun L K hK => ef_make (w * h) runUnderlying38 typeInfo3 sizeOf3 zeroValue3 rfl (by dsimp only [cellsL, List.toList_toArray]) rfl rfl rfl (by rw [show Tryz.t3.bytes = 8 from rfl]; omega) fun r => hK _ _ ⟨r, rfl, rfl⟩⟩, ⟨_, rfl, fun L K hK => ef_make (w * h) runUnderlying123 typeInfo4 sizeOf4 zeroValue4 rfl (by dsimp only [cellsL, List.toList_toArray]) rfl rfl rfl (by rw [show Tryz.t4.bytes = 1 from rfl]; omega) fun r => hK _ _ ⟨r, rfl, rfl⟩⟩, ⟨_, rfl, fun L K hK => ef_make (w * h) runUnderlying123 typeInfo4 sizeOf4 zeroValue4 rfl (by dsimp only [cellsL, List.toList_toArray]) rfl rfl rfl (by rw [show Tryz.t4.bytes = 1 from rfl]; omega) fun r => hK _ _ ⟨r, rfl, rfl⟩⟩, ⟨_, rfl, fun L K hK => ef_make (w * h) runUnderlying123 typeInfo4 sizeOf4 zeroValue4 rfl (by dsimp only [cellsL, List.toList_toArray]) rfl rfl rfl (by rw [show Tryz.t4.bytes = 1 from rfl]; omega) fun r => hK _ _ ⟨r, rfl, rfl⟩⟩, ⟨_, rfl, fun L K hK => ef_call rfl rfl call99 q_fresh .nil fun _ _ => hK _ _ ⟨rfl, rfl⟩⟩⟩ (fun vs => [(18, vs 5), (20, vs 7), (22, vs 9), (24, vs 11), (26, vs 13), (27, vs 14)]) (fun _ => rfl) fun vs Xs hR => ?_)))))))))
 obtain ⟨⟨r5, v5, x5⟩, ⟨r7, v7, x7⟩, ⟨r9, v9, x9⟩, ⟨r11, v11, x11⟩, ⟨r13, v13, x13⟩, v14, x14⟩ := hR
 rw [v5, v7, v9, v11, v13, v14]
 simp only [List.flatMap_cons, List.flatMap_nil, x5, x7, x9, x11, x13, x14, List.append_nil, List.nil_append]
 dsimp only [List.cons_append, List.nil_append]
 refine trw_pure 15 [16,17] rfl (by kernel_rfl) rfl (pv_build (cs := (cdH (gB w h band style (0, r5, r7, r9, r11, r13)) ++ cxC freshCx ++ tB)) (pl := [(0, 1), (1, 1), (2, 1), (3, 1), (4, 1), (5, 1), (6, 1), (7, 1), (8, 1), (9, 38), (47, 1), (48, 1), (49, 1), (50, 1), (51, 1), (52, 1)]) runUnderlying133 zeroValue133 (fun w => by simp [sizeOf123, sizeOf127, sizeOf128, sizeOf129, sizeOf130, sizeOf131, sizeOf3, sizeOf38, sizeOf4]) (by dsimp only [cellsL, List.toList_toArray]) rfl rfl) ?_
 refine trw_one 16 (by kernel_rfl) ?_
 refine trwat_eff rfl rfl rfl (ef_box rfl (by dsimp only [cellsL, List.toList_toArray]) fun r29 => ?_)
 refine ⟨?_, trivial⟩
 refine trw_pure 17 [] rfl (by kernel_rfl) rfl (pv_assign rfl) (trw_nil (tr_keep (ks := [8]) (.cons rfl .nil) fun base => ?_))
 rw [zeros_i, zeros_b, show cdH (gB w h band style (0, r5, r7, r9, r11, r13)) = cdH (gB w h band style (r29, r5, r7, r9, r11, r13)) from rfl]
 refine Tr.fold (sl_of_pt (e := 3) (sz := 1) (n := w * h) (p := r5) (cells := i64s (List.replicate (w * h) 0)) (by simp [i64s])) (by with_reducible repeat constructor) ?_
 refine Tr.fold (sl_of_pt (e := 3) (sz := 1) (n := w * h) (p := r7) (cells := i64s (List.replicate (w * h) 0)) (by simp [i64s])) (by with_reducible repeat constructor) ?_
 refine Tr.fold (sl_of_pt (e := 4) (sz := 1) (n := w * h) (p := r9) (cells := bools (List.replicate (w * h) false)) (by simp [bools])) (by with_reducible repeat constructor) ?_
 refine Tr.fold (sl_of_pt (e := 4) (sz := 1) (n := w * h) (p := r11) (cells := bools (List.replicate (w * h) false)) (by simp [bools])) (by with_reducible repeat constructor) ?_
 refine Tr.fold (sl_of_pt (e := 4) (sz := 1) (n := w * h) (p := r13) (cells := bools (List.replicate (w * h) false)) (by simp [bools])) (by with_reducible repeat constructor) ?_
 refine tr_ret func53 rfl .nil (by kernel_rfl) (.tmp rfl .nil) (r29, r5, r7, r9, r11, r13) rfl trivial (fun F w0 hw => cb_fold F w0 [] (holds_of_picks (As := [pt r29 133 (cdH (gB w h band style (r29, r5, r7, r9, r11, r13)) ++ cxC freshCx ++ tB), Sl 3 1 (w * h) (.slice (some ⟨r5, 0, none⟩) (w * h) (w * h)) (i64s (List.replicate (w * h) 0)), Sl 3 1 (w * h) (.slice (some ⟨r7, 0, none⟩) (w * h) (w * h)) (i64s (List.replicate (w * h) 0)), Sl 4 1 (w * h) (.slice (some ⟨r9, 0, none⟩) (w * h) (w * h)) (bools (List.replicate (w * h) false)), Sl 4 1 (w * h) (.slice (some ⟨r11, 0, none⟩) (w * h) (w * h)) (bools (List.replicate (w * h) false)), Sl 4 1 (w * h) (.slice (some ⟨r13, 0, none⟩) (w * h) (w * h)) (bools (List.replicate (w * h) false))]) (by with_reducible repeat constructor) F w0 hw))
end Go.Proofs
