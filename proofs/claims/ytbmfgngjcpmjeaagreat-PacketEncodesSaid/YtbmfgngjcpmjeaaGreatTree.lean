/- Contracts of functions that the law reaches, in every memory (part Tree). -/
import Derived.Test.YtbmfgngjcpmjeaaGreatBits
import Derived.Test.YtbmfgngjcpmjeaaGreatEngD
set_option linter.unusedVariables false
set_option linter.unusedSimpArgs false
set_option maxRecDepth 10000
namespace Go.Proofs
open Go.Eng Tryz
def PT (r : Nat) (sh : List (Nat × Nat)) (T : List Nd) : SL := ex fun v => ex fun ps => star (pure' (one? v = true ∧ ps.length = sh.length ∧ T.length = total sh))
  (star (pt r 178 [v]) (star (Sl 181 3 sh.length v (lvCells sh ps)) (NS 184 sh ps T)))
theorem pt_open {r : Nat} {sh : List (Nat × Nat)} {T : List Nd} : Unfold (PT r sh T) (fun x : Value × List Nat => one? x.1 = true ∧ x.2.length = sh.length ∧ T.length = total sh)
    (fun x => [pt r 178 [x.1], Sl 181 3 sh.length x.1 (lvCells sh x.2), NS 184 sh x.2 T]) := by
  intro F w N h
  obtain ⟨v, h⟩ := Holds.ex.1 h
  obtain ⟨ps, h⟩ := Holds.ex.1 h
  obtain ⟨hp, h⟩ := Holds.pure.1 (Holds.star.1 h)
  have h := Holds.star.1 h
  have h := Holds.star.1 (h.perm (List.Perm.swap _ _ _))
  exact ⟨(v, ps), hp, h.perm ((List.perm_middle (l₁ := [_, _])).trans (List.Perm.refl _))⟩
theorem pt_fold {r n : Nat} {sh : List (Nat × Nat)} {T : List Nd} {v : Value} {ps : List Nat} {cells : List Value} (ho : one? v = true) (h1 : ps.length = sh.length) (h2 : T.length = total sh) (hn : sh.length = n) (hc : lvCells sh ps = cells) :
    Fold [pt r 178 [v], Sl 181 3 n v cells, NS 184 sh ps T] (PT r sh T) := by
  intro F w N h
  subst hn; subst hc
  refine Holds.ex.2 ⟨v, Holds.ex.2 ⟨ps, Holds.star.2 (Holds.pure.2 ⟨⟨ho, h1, h2⟩, Holds.star.2 ?_⟩)⟩⟩
  refine Holds.perm (L := star (Sl _ 3 sh.length v (lvCells sh ps)) (NS _ sh ps T) :: pt r _ [v] :: N) (Holds.star.2 ?_) (List.Perm.swap _ _ _)
  exact h.perm ((List.Perm.swap _ _ _).trans ((List.Perm.swap _ _ _).cons _))
theorem grid_of {w h : Nat} (hwh : w * h ≤ 100000) : Spec Tryz.prog 98 [.int .i64 (w : Nat), .int .i64 (h : Nat)] []
    (fun p : Nat => ⟨.agg #[.int .i64 (w : Nat), .int .i64 (h : Nat), .slice (some ⟨p, 0, none⟩) (w * h) (w * h)], True, [pt p 184 ((List.replicate (w * h) (⟨0, 0, false⟩ : Nd)).flatMap encN)]⟩) := by
 refine spec_of_tr func98 rfl ntmps98 (by kernel_rfl) ?_
 have := Nat.zero_le (w * h)
 refine tr_seq (tr_region (trl_eff (ef_alloc zeroValue181 (by dsimp only [cellsL, List.toList_toArray]) fun r4 => ?_)))
 refine trl_nil (tr_seq (tr_region (tmv rfl (tmv rfl (tmv rfl (tmv rfl (trl_pv (pv_mulI rfl rfl (by omega) (by omega)) ?_)))))))
 refine trl_eff (ef_make (w * h) runUnderlying179 typeInfo184 sizeOf184 zeroValue184 rfl (by dsimp only [cellsL, List.toList_toArray]) rfl rfl (by simp) (by rw [show Tryz.t184.bytes = 24 from rfl]; omega) fun r10 => ?_)
 refine trl_pv (pv_build (pl := [(0, 1), (1, 1), (2, 1)]) runUnderlying181 zeroValue181 (fun w => by simp [sizeOf179, sizeOf3]) (by dsimp only [cellsL, List.toList_toArray]) rfl rfl) ?_
 refine trl_eff0 (ef_store_agg sizeOf181 rfl rfl rfl (by with_reducible repeat constructor) rfl ?_)
 refine trl_nil (tr_keep (ks := [4]) (.cons rfl .nil) fun base => ?_)
 rw [← zeros_nd]
 refine tr_ret func98 rfl .nil (by kernel_rfl) (.cell rfl (loadVar_agg isAgg181 sizeOf181 (by with_reducible repeat constructor) rfl) .nil) r10 rfl trivial (holds_of_picks (by with_reducible repeat constructor))
theorem grid_at {w h p n x y : Nat} (h1 : y * w + x < n) (hn : n ≤ 100000) : Spec Tryz.prog 108 [.agg #[.int .i64 (w : Nat), .int .i64 (h : Nat), .slice (some ⟨p, 0, none⟩) n n], .int .i64 (x : Nat), .int .i64 (y : Nat)] []
    (fun _ : Unit => ⟨.pointer (some ⟨p, (y * w + x) * 3, none⟩), True, []⟩) := by
 refine spec_of_tr func108 rfl ntmps108 (by kernel_rfl) ?_
 have := Nat.zero_le (y * w)
 refine tr_seq (tr_region (trl_eff (ef_box rfl (by dsimp only [cellsL, List.toList_toArray]) fun r3 => ?_)))
 refine tas rfl (trl_nil (tr_seq (tr_region (trl_pv (pv_fieldAddr runUnderlying181 rfl sizeOf179 rfl rfl) (trl_val (rv_load isAgg179 rfl (by with_reducible repeat constructor) rfl) ?_)))))
 refine tmv rfl (trl_pv (pv_fieldAddr runUnderlying181 rfl sizeOf3 rfl rfl) (trl_val (rv_load isAgg3 rfl (by with_reducible repeat constructor) rfl) ?_))
 refine trl_pv (pv_mulI rfl rfl (by omega) (by omega)) ?_
 refine tmv rfl (trl_pv (pv_addI rfl rfl (by omega) (by omega)) ?_)
 refine trl_pv (pv_conv (pv_indexAddr runUnderlying179 sizeOf184 rfl rfl (by omega) (by omega)) (ptr_eq (b := (y * w + x) * 3) (by omega))) ?_
 refine tas rfl (trl_nil (tr_keep (ks := [6]) (.cons rfl .nil) fun base => ?_))
 refine tr_ret func108 rfl .nil (by kernel_rfl) (.tmp rfl .nil) () rfl trivial (holds_of_picks (by with_reducible repeat constructor))
theorem tree_new {w h : Nat} (hw : w ≤ 64) (hh : h ≤ 64) : Spec Tryz.prog 50 [.int .i64 (w : Nat), .int .i64 (h : Nat)] []
    (fun r : Nat => ⟨.pointer (some ⟨r, 0, none⟩), True, [PT r (tshape w h) (List.replicate (total (tshape w h)) ⟨0, 0, false⟩)]⟩) := by
 refine spec_of_tr func50 rfl ntmps50 (by kernel_rfl) ?_
 refine tr_seq (tr_region (tas rfl (trl_nil (tr_seq (tr_seq (tr_region (tmv rfl (trl_pv (pv_lss rfl rfl) (tmv rfl (trl_split 2 rfl (fun g8 => ?_) (fun g8 => ?_)))))))))))
 ·refine trl_not rfl (decide_eq_true g8) ?_
  refine trl_not rfl (decide_eq_true g8) ?_
  refine trl_pv (pv_pick_t rfl (decide_eq_true g8) rfl) (tmv rfl (trl_not rfl rfl ?_))
  refine trl_not rfl rfl ?_
  refine trl_pv (pv_pick_t rfl rfl rfl) (tmv rfl (trl_not rfl rfl ?_))
  refine trl_not rfl rfl ?_
  refine trl_pv (pv_pick_t rfl rfl rfl) (trl_nil (tr_keep (ks := [0,1,19]) (.cons rfl (.cons rfl (.cons rfl .nil))) fun base => ?_))
  refine tr_then rfl rfl ?_
  refine tr_seq (tr_region (trl_pv (pv_build (pl := [(0, 1)]) runUnderlying178 zeroValue178 (fun w => by simp [sizeOf176]) (by dsimp only [cellsL, List.toList_toArray]) rfl rfl) ?_))
  refine trl_eff (ef_box rfl (by dsimp only [cellsL, List.toList_toArray]) fun r21 => ?_)
  refine tas rfl (trl_nil ?_)
  rw [show tshape w h = [] from if_pos (by omega)]
  refine tr_empty 181 3 none ?_
  refine Tr.fold (ns_nil (t := 184)) .nil ?_
  refine Tr.fold (pt_fold (r := r21) (sh := []) (T := []) (v := .slice none 0 0) (ps := []) (n := 0) (cells := []) rfl rfl rfl rfl rfl) (by with_reducible repeat constructor) ?_
  refine tr_ret func50 rfl .nil (by kernel_rfl) (.tmp rfl .nil) r21 rfl trivial (holds_eq (As' := [PT r21 [] []]) (holds_of_picks (by with_reducible repeat constructor)) rfl)
 ·refine trl_pvg rfl (decide_eq_false g8) (pv_move rfl) (trl_pvg rfl (decide_eq_false g8) (pv_lss rfl rfl) (trl_pv (pv_pick_f rfl (decide_eq_false g8) rfl) (tmv rfl (trl_split 6 rfl (fun g12 => ?_) (fun g12 => ?_)))))
  ·refine trl_not rfl (decide_eq_true g12) ?_
   refine trl_not rfl (decide_eq_true g12) ?_
   refine trl_pv (pv_pick_t rfl (decide_eq_true g12) rfl) (tmv rfl (trl_not rfl rfl ?_))
   refine trl_not rfl rfl ?_
   refine trl_pv (pv_pick_t rfl rfl rfl) (trl_nil (tr_keep (ks := [0,1,19]) (.cons rfl (.cons rfl (.cons rfl .nil))) fun base => ?_))
   refine tr_then rfl rfl ?_
   refine tr_seq (tr_region (trl_pv (pv_build (pl := [(0, 1)]) runUnderlying178 zeroValue178 (fun w => by simp [sizeOf176]) (by dsimp only [cellsL, List.toList_toArray]) rfl rfl) ?_))
   refine trl_eff (ef_box rfl (by dsimp only [cellsL, List.toList_toArray]) fun r21 => ?_)
   refine tas rfl (trl_nil ?_)
   rw [show tshape w h = [] from if_pos (by omega)]
   refine tr_empty 181 3 none ?_
   refine Tr.fold (ns_nil (t := 184)) .nil ?_
   refine Tr.fold (pt_fold (r := r21) (sh := []) (T := []) (v := .slice none 0 0) (ps := []) (n := 0) (cells := []) rfl rfl rfl rfl rfl) (by with_reducible repeat constructor) ?_
   refine tr_ret func50 rfl .nil (by kernel_rfl) (.tmp rfl .nil) r21 rfl trivial (holds_eq (As' := [PT r21 [] []]) (holds_of_picks (by with_reducible repeat constructor)) rfl)
  ·refine trl_pvg rfl (decide_eq_false g12) (pv_move rfl) (trl_pvg rfl (decide_eq_false g12) (pv_gtr rfl rfl) (trl_pv (pv_pick_f rfl (decide_eq_false g12) rfl) (tmv rfl (trl_pvg rfl (decide_eq_false (by omega)) (pv_move rfl) ?_))))
   refine trl_pvg rfl (decide_eq_false (by omega)) (pv_gtr rfl rfl) ?_
   refine trl_pv (pv_pick_f rfl (decide_eq_false (by omega)) rfl) ?_
   refine trl_nil (tr_keep (ks := [0,1,19]) (.cons rfl (.cons rfl (.cons rfl .nil))) fun base => ?_)
   refine tr_else rfl (decide_eq_false (by omega)) ?_
   refine tr_skip (tr_seq (tr_region (trl_pv (pv_build (pl := [(0, 1)]) runUnderlying178 zeroValue178 (fun w => by simp [sizeOf176]) (by dsimp only [cellsL, List.toList_toArray]) rfl rfl) ?_)))
   refine trl_eff (ef_box rfl (by dsimp only [cellsL, List.toList_toArray]) fun r23 => ?_)
   refine tas rfl (trl_nil ?_)
   refine tr_empty 181 3 none ?_
   refine Tr.fold (ns_nil (t := 184)) .nil ?_
   refine tr_block ?_
   refine tr_while (α := Value × List (Nat × Nat) × List Nat × Nat × Nat) ((.slice none 0 0, [], [], w, h)) (fun x => x.2.2.2.1 + x.2.2.2.2) (fun x => [(0, .int .i64 (x.2.2.2.1 : Nat)), (1, .int .i64 (x.2.2.2.2 : Nat)), (5, .pointer (some ⟨r23, 0, none⟩))]) (fun x => [pure' (one? x.1 = true ∧ x.2.2.1.length = x.2.1.length ∧ 0 < x.2.2.2.1 ∧ x.2.2.2.1 ≤ 64 ∧ 0 < x.2.2.2.2 ∧ x.2.2.2.2 ≤ 64 ∧ x.2.1.length + (x.2.2.2.1 + x.2.2.2.2) ≤ 128 ∧ ∃ f, x.2.2.2.1 + x.2.2.2.2 ≤ f ∧ tshape w h = x.2.1 ++ shp f x.2.2.2.1 x.2.2.2.2),
      pt r23 178 [x.1], Sl 181 3 x.2.1.length x.1 (lvCells x.2.1 x.2.2.1), NS 184 x.2.1 x.2.2.1 (List.replicate (total x.2.1) ⟨0, 0, false⟩)]) (ks := [0,1,5]) (.cons rfl (.cons rfl (.cons rfl .nil))) (holds_eq (As' := [pure' _, pt r23 178 [.slice none 0 0], Sl 181 3 0 (.slice none 0 0) [], NS 184 [] [] []]) (holds_pure ⟨rfl, rfl, by dsimp only; omega, hw, by dsimp only; omega, hh, by simp; omega, w + h, Nat.le_refl _, if_neg (by omega)⟩ (holds_of_picks (by with_reducible repeat constructor))) rfl) ?_
   intro ⟨v, dn, ps, wa, ha⟩ base ih0
   refine Tr.pure fun ⟨hov, hl, g1, g2, g3, g4, g5, f, g6, g7⟩ => ?_
   dsimp only at hov hl g1 g2 g3 g4 g5 g6 g7 ⊢
   have hm := Nat.mul_le_mul g2 g4
   obtain ⟨f, rfl⟩ : ∃ f0, f = f0 + 1 := ⟨f - 1, by omega⟩
   simp only [shp] at g7
   refine tr_block (tr_seq (tr_draww (rem := [0,1,2,3,4,5,6,7,8,9,10,11,12]) (by kernel_rfl) (by kernel_rfl) rfl ?_))
   refine twm 0 [10,11,12] rfl (by kernel_rfl) rfl rfl (twm 1 [2,3,4,9,10,11,12] rfl (by kernel_rfl) rfl rfl (twn 2 [3,4,9,10,11,12] rfl (by kernel_rfl) rfl rfl (trw_pure 3 [4,9,10,11,12] rfl (by kernel_rfl) rfl (pv_fieldAddr runUnderlying178 rfl sizeOf176 rfl rfl) (twm 5 [7,8,9,10,11,12] rfl (by kernel_rfl) rfl rfl (twm 6 [7,8,9,10,11,12] rfl (by kernel_rfl) rfl rfl (trw_read 4 [9,10,11,12] rfl (by kernel_rfl) rfl (rv_load isAgg176 rfl (by with_reducible repeat constructor) rfl) ?_))))))
   refine trw_one 7 (by kernel_rfl) ?_
   refine trwat_eff rfl rfl rfl (ef_call rfl rfl call98 (grid_of (w := wa) (h := ha) (by omega)) (by with_reducible repeat constructor) fun p31 hx31 => ?_)
   dsimp only [List.cons_append, List.nil_append]
   refine ⟨?_, (rv_load isAgg176 rfl (by with_reducible repeat constructor) rfl), trivial⟩
   refine trw_one 8 (by kernel_rfl) ?_
   refine trwat_eff rfl rfl rfl (ef_buildSlice runUnderlying176 sizeOf181 zeroValue181 rfl rfl rfl rfl rfl (by dsimp only [flatC, cellsL, List.toList_toArray, List.cons_append, List.nil_append, List.append_nil]) fun r32 => ?_)
   refine ⟨?_, (rv_load isAgg176 rfl (by with_reducible repeat constructor) rfl), trivial⟩
   refine trw_one 9 (by kernel_rfl) ?_
   refine trwat_eff rfl rfl rfl (ef_append runUnderlying176 runUnderlying176 typeInfo181 sizeOf181 zeroValue181 rfl rfl rfl (by with_reducible repeat constructor) (reads_pt (by with_reducible repeat constructor) rfl) rfl (by simp [one?]) (by rw [show Tryz.t181.bytes = 40 from rfl]; omega) fun v33 ho33 => ?_)
   refine ⟨?_, trivial⟩
   refine twn 10 [11,12] rfl (by kernel_rfl) rfl rfl (trw_pure 11 [12] rfl (by kernel_rfl) rfl (pv_fieldAddr runUnderlying178 rfl sizeOf176 rfl rfl) (trw_one 12 (by kernel_rfl) ?_))
   refine trwat_eff0 rfl rfl rfl (ef_store sizeOf176 rfl rfl (by first | rfl | assumption) (by with_reducible repeat constructor) rfl ?_)
   refine ⟨?_, trivial⟩
   refine trw_nil ?_
   refine Tr.fold (ns_add (s := (wa, ha)) (T0 := List.replicate (total dn) ⟨0, 0, false⟩) (T := List.replicate (wa * ha) ⟨0, 0, false⟩) hl.symm (by simp) (by simp)) (by with_reducible repeat constructor) ?_
   rw [List.replicate_append_replicate, ← total_snoc]
   have e1 : lvCells dn ps ++ [.int .i64 (wa : Nat), .int .i64 (ha : Nat), .slice (some ⟨p31, 0, none⟩) (wa * ha) (wa * ha)] = lvCells (dn ++ [(wa, ha)]) (ps ++ [p31]) := (lv_snoc (s := (wa, ha)) (p := p31) hl.symm).symm
   rw [e1]
   refine tr_keep (ks := [0,1,5]) (.cons rfl (.cons rfl (.cons rfl .nil))) fun base => ?_
   refine tr_seq (tr_seq (tr_region (tmv rfl (trl_pv (pv_eql rfl rfl) (tmv rfl (trl_split 2 rfl (fun g38 => ?_) (fun g38 => ?_)))))))
   ·refine trl_pvg rfl (decide_eq_true g38) (pv_move rfl) (trl_pvg rfl (decide_eq_true g38) (pv_eql rfl rfl) (trl_pv (pv_pick_t rfl (decide_eq_true g38) rfl) (trl_nil (tr_if rfl (fun h1 => ?_) (fun h1 => ?_)))))
    ·refine tr_seq (tr_region (tmv rfl (tas rfl (trl_nil (tr_keep (ks := [4]) (.cons rfl .nil) fun base => ?_)))))
     rw [g7, if_pos (by omega)]
     refine Tr.fold (pt_fold (sh := dn ++ [(wa, ha)]) (ps := ps ++ [p31]) (T := List.replicate (total (dn ++ [(wa, ha)])) ⟨0, 0, false⟩) (n := dn.length + 1) (cells := lvCells (dn ++ [(wa, ha)]) (ps ++ [p31])) ho33 (by simp [hl]) (by simp) (by simp) rfl) (by with_reducible repeat constructor) ?_
     refine tr_ret func50 rfl .nil (by kernel_rfl) (.tmp rfl .nil) r23 rfl trivial (holds_of_picks (by with_reducible repeat constructor))
    ·refine tr_skip (tr_region (tmv rfl (trl_pv (pv_addI rfl rfl (by omega) (by omega)) ?_)))
     refine trl_pv (pv_quoI rfl rfl (by omega) (by omega) (by omega)) ?_
     refine tmv rfl (trl_pv (pv_addI rfl rfl (by omega) (by omega)) ?_)
     refine trl_pv (pv_quoI rfl rfl (by omega) (by omega) (by omega)) ?_
     refine tas rfl (tas rfl (trl_nil (tr_keep (ks := [0,1,5]) (.cons rfl (.cons rfl (.cons rfl .nil))) fun base => ?_)))
     refine tr_inBlock (tr_again ih0 (v33, dn ++ [(wa, ha)], ps ++ [p31], (wa + 1) / 2, (ha + 1) / 2) (by first | omega | (dsimp only; omega)) (.cons (keep_int rfl (by dsimp only; omega)) (.cons (keep_int rfl (by dsimp only; omega)) (.cons rfl .nil))) (by simp only [List.length_append, List.length_singleton]; exact holds_pure ⟨ho33, by omega, by omega, by omega, by omega, by omega, by omega, f, by omega, by rw [g7, if_neg (by omega)]; simp⟩ (holds_of_picks (by with_reducible repeat constructor))))
   ·refine trl_not rfl (decide_eq_false g38) ?_
    refine trl_not rfl (decide_eq_false g38) ?_
    refine trl_pv (pv_pick_f rfl (decide_eq_false g38) rfl) (trl_nil (tr_else rfl rfl ?_))
    refine tr_skip (tr_region (tmv rfl (trl_pv (pv_addI rfl rfl (by omega) (by omega)) ?_)))
    refine trl_pv (pv_quoI rfl rfl (by omega) (by omega) (by omega)) ?_
    refine tmv rfl (trl_pv (pv_addI rfl rfl (by omega) (by omega)) ?_)
    refine trl_pv (pv_quoI rfl rfl (by omega) (by omega) (by omega)) ?_
    refine tas rfl (tas rfl (trl_nil (tr_keep (ks := [0,1,5]) (.cons rfl (.cons rfl (.cons rfl .nil))) fun base => ?_)))
    refine tr_inBlock (tr_again ih0 (v33, dn ++ [(wa, ha)], ps ++ [p31], (wa + 1) / 2, (ha + 1) / 2) (by first | omega | (dsimp only; omega)) (.cons (keep_int rfl (by dsimp only; omega)) (.cons (keep_int rfl (by dsimp only; omega)) (.cons rfl .nil))) (by simp only [List.length_append, List.length_singleton]; exact holds_pure ⟨ho33, by omega, by omega, by omega, by omega, by omega, by omega, f, by omega, by rw [g7, if_neg (by omega)]; simp⟩ (holds_of_picks (by with_reducible repeat constructor))))
theorem tree_way {r : Nat} {sh : List (Nat × Nat)} {ps : List Nat} {v : Value} {k : Int} (hF : Fine sh) (hl : ps.length = sh.length) : Spec Tryz.prog 106 [.pointer (some ⟨r, 0, none⟩), .int .i64 k] [pt r 178 [v], Sl 181 3 sh.length v (lvCells sh ps)]
    (fun v' : Value => ⟨v', one? v' = true, [pt r 178 [v], Sl 181 3 sh.length v (lvCells sh ps), Sl 194 1 (tway sh k).length v' (tptr sh ps k)]⟩) := by
 refine spec_of_tr func106 rfl ntmps106 (by kernel_rfl) ?_
 have hlen := hF.2.1
 refine tr_seq (tr_region (tas rfl (trl_nil (tr_seq (tr_seq (tr_region (tmv rfl (tnc rfl (trl_pv (pv_fieldAddr runUnderlying178 rfl sizeOf176 rfl rfl) (trl_val (rv_load isAgg176 rfl (by with_reducible repeat constructor) rfl) ?_))))))))))
 refine trl_val (rv_len_sl runUnderlying176 rfl (by with_reducible repeat constructor)) ?_
 refine trl_pv (pv_eql rfl rfl) (tmv rfl (trl_split 6 rfl (fun g16 => ?_) (fun g16 => ?_)))
 ·refine trl_not rfl (decide_eq_true g16) ?_
  refine trl_not rfl (decide_eq_true g16) ?_
  refine trl_pv (pv_pick_t rfl (decide_eq_true g16) rfl) (tmv rfl (trl_not rfl rfl ?_))
  refine trl_not rfl rfl ?_
  refine trl_not rfl rfl ?_
  refine trl_not rfl rfl ?_
  refine trl_not rfl rfl ?_
  refine trl_not rfl rfl ?_
  refine trl_not rfl rfl ?_
  refine trl_not rfl rfl ?_
  refine trl_not rfl rfl ?_
  refine trl_not rfl rfl ?_
  refine trl_pv (pv_pick_t rfl rfl rfl) (trl_nil (tr_keep (ks := [0,1,31]) (.cons rfl (.cons rfl (.cons rfl .nil))) fun base => ?_))
  refine tr_then rfl rfl ?_
  refine tr_seq (tr_region (tas rfl (trl_nil ?_)))
  have hz : tway sh k = [] := tway_none (by first | exact .inl (by omega) | exact .inr (fun s hs => by omega))
  have hz2 : tptr sh ps k = [] := List.eq_nil_of_length_eq_zero (by rw [tway_length hl, hz]; rfl)
  rw [hz, hz2]
  refine tr_empty 194 1 none ?_
  refine tr_ret func106 rfl .nil (by kernel_rfl) (.tmp rfl .nil) (.slice none 0 0) rfl rfl (holds_eq (As' := [pt r 178 [v], Sl 181 3 sh.length v (lvCells sh ps), Sl 194 1 0 (.slice none 0 0) []]) (holds_of_picks (by with_reducible repeat constructor)) rfl)
 ·refine trl_pvg rfl (decide_eq_false g16) (pv_move rfl) (trl_pvg rfl (decide_eq_false g16) (pv_lss rfl rfl) (trl_pv (pv_pick_f rfl (decide_eq_false g16) rfl) (tmv rfl (trl_split 10 rfl (fun g20 => ?_) (fun g20 => ?_)))))
  ·refine trl_not rfl (decide_eq_true g20) ?_
   refine trl_not rfl (decide_eq_true g20) ?_
   refine trl_not rfl (decide_eq_true g20) ?_
   refine trl_not rfl (decide_eq_true g20) ?_
   refine trl_not rfl (decide_eq_true g20) ?_
   refine trl_not rfl (decide_eq_true g20) ?_
   refine trl_not rfl (decide_eq_true g20) ?_
   refine trl_not rfl (decide_eq_true g20) ?_
   refine trl_not rfl (decide_eq_true g20) ?_
   refine trl_not rfl (decide_eq_true g20) ?_
   refine trl_pv (pv_pick_t rfl (decide_eq_true g20) rfl) (trl_nil (tr_keep (ks := [0,1,31]) (.cons rfl (.cons rfl (.cons rfl .nil))) fun base => ?_))
   refine tr_then rfl rfl ?_
   refine tr_seq (tr_region (tas rfl (trl_nil ?_)))
   have hz : tway sh k = [] := tway_none (by first | exact .inl (by omega) | exact .inr (fun s hs => by omega))
   have hz2 : tptr sh ps k = [] := List.eq_nil_of_length_eq_zero (by rw [tway_length hl, hz]; rfl)
   rw [hz, hz2]
   refine tr_empty 194 1 none ?_
   refine tr_ret func106 rfl .nil (by kernel_rfl) (.tmp rfl .nil) (.slice none 0 0) rfl rfl (holds_eq (As' := [pt r 178 [v], Sl 181 3 sh.length v (lvCells sh ps), Sl 194 1 0 (.slice none 0 0) []]) (holds_of_picks (by with_reducible repeat constructor)) rfl)
  ·refine trl_pvg rfl (decide_eq_false g20) (pv_move rfl) (trl_pvg rfl (decide_eq_false g20) (pv_move rfl) (trl_pvg rfl (decide_eq_false g20) (pv_nilCheck rfl) (trl_pvg rfl (decide_eq_false g20) (pv_fieldAddr runUnderlying178 rfl sizeOf176 rfl rfl) (trl_valg rfl (decide_eq_false g20) (rv_load isAgg176 rfl (by with_reducible repeat constructor) rfl) ?_))))
   obtain ⟨s0, hs0⟩ := get_some (l := sh) (i := 0) (by omega)
   obtain ⟨p0, hp0⟩ := get_some (l := ps) (i := 0) (by omega)
   have hw0 := hF.2.2 0 s0 hs0
   refine trl_valg rfl (decide_eq_false g20) (rv_indexAddr_sl runUnderlying176 sizeOf181 rfl rfl (by with_reducible repeat constructor) (by omega) (by omega)) ?_
   refine trl_pvg rfl (decide_eq_false g20) (pv_fieldAddr runUnderlying181 rfl sizeOf179 rfl rfl) (trl_valg rfl (decide_eq_false g20) (rv_load_sl isAgg179 rfl (by with_reducible repeat constructor) (lv_s hs0 hp0)) ?_)
   refine trl_pvg rfl (decide_eq_false g20) (pv_len runUnderlying179 rfl) (trl_pvg rfl (decide_eq_false g20) (pv_geq rfl rfl) (trl_pv (pv_pick_f rfl (decide_eq_false g20) rfl) (trl_nil (tr_keep (ks := [0,1,31]) (.cons rfl (.cons rfl (.cons rfl .nil))) fun base => ?_))))
   refine tr_if rfl (fun h0 => ?_) (fun h0 => ?_)
   ·refine tr_seq (tr_region (tas rfl (trl_nil ?_)))
    have hz : tway sh k = [] := tway_none0 hs0 (by omega)
    have hz2 : tptr sh ps k = [] := List.eq_nil_of_length_eq_zero (by rw [tway_length hl, hz]; rfl)
    rw [hz, hz2]
    refine tr_empty 194 1 none ?_
    refine tr_ret func106 rfl .nil (by kernel_rfl) (.tmp rfl .nil) (.slice none 0 0) rfl rfl (holds_eq (As' := [pt r 178 [v], Sl 181 3 sh.length v (lvCells sh ps), Sl 194 1 0 (.slice none 0 0) []]) (holds_of_picks (by with_reducible repeat constructor)) rfl)
   ·refine tr_skip (tr_seq ?_)
    obtain ⟨k, rfl⟩ := Int.eq_ofNat_of_zero_le (show 0 ≤ k by omega)
    have hkl : k < s0.1 * s0.2 := by omega
    have hpos := halves_pos hF.1 hs0
    refine tr_draww (rem := [0,1,2,3,4,5,6,7,8,9,10,11,12,13,14,15,16,17,18,19]) (by kernel_rfl) (by kernel_rfl) rfl ?_
    refine twm 0 [8,18,19] rfl (by kernel_rfl) rfl rfl (twm 1 [2,3,4,5,6,7,8,18,19] rfl (by kernel_rfl) rfl rfl (twn 2 [3,4,5,6,7,8,18,19] rfl (by kernel_rfl) rfl rfl (trw_pure 3 [4,5,6,7,8,18,19] rfl (by kernel_rfl) rfl (pv_fieldAddr runUnderlying178 rfl sizeOf176 rfl rfl) (twm 9 [17,19] rfl (by kernel_rfl) rfl rfl (twm 10 [11,12,13,14,15,16,17,19] rfl (by kernel_rfl) rfl rfl (twn 11 [12,13,14,15,16,17,19] rfl (by kernel_rfl) rfl rfl (trw_pure 12 [13,14,15,16,17,19] rfl (by kernel_rfl) rfl (pv_fieldAddr runUnderlying178 rfl sizeOf176 rfl rfl) (trw_read 4 [5,6,7,8,18,19] rfl (by kernel_rfl) rfl (rv_load isAgg176 rfl (by with_reducible repeat constructor) rfl) ?_))))))))
    refine trw_read 5 [6,7,8,18,19] rfl (by kernel_rfl) rfl (rv_indexAddr_sl runUnderlying176 sizeOf181 rfl rfl (by with_reducible repeat constructor) (by omega) (by omega)) ?_
    refine trw_pure 6 [7,8,18,19] rfl (by kernel_rfl) rfl (pv_fieldAddr runUnderlying181 rfl sizeOf3 rfl rfl) (trw_read 7 [8,18,19] rfl (by kernel_rfl) rfl (rv_load_sl isAgg3 rfl (by with_reducible repeat constructor) (lv_w hs0 hp0)) ?_)
    refine trw_pure 8 [18,19] rfl (by kernel_rfl) rfl (pv_remI rfl rfl (by omega) (by omega)) ?_
    refine trw_pure 18 [19] rfl (by kernel_rfl) rfl (pv_assign rfl) (trw_read 13 [14,15,16,17,19] rfl (by kernel_rfl) rfl (rv_load isAgg176 rfl (by with_reducible repeat constructor) rfl) ?_)
    refine trw_read 14 [15,16,17,19] rfl (by kernel_rfl) rfl (rv_indexAddr_sl runUnderlying176 sizeOf181 rfl rfl (by with_reducible repeat constructor) (by omega) (by omega)) ?_
    refine trw_pure 15 [16,17,19] rfl (by kernel_rfl) rfl (pv_fieldAddr runUnderlying181 rfl sizeOf3 rfl rfl) (trw_read 16 [17,19] rfl (by kernel_rfl) rfl (rv_load_sl isAgg3 rfl (by with_reducible repeat constructor) (lv_w hs0 hp0)) ?_)
    refine trw_pure 17 [19] rfl (by kernel_rfl) rfl (pv_quoI rfl rfl (by omega) (by omega) (by omega)) ?_
    refine trw_pure 19 [] rfl (by kernel_rfl) rfl (pv_assign rfl) (trw_nil (tr_keep (ks := [0,5,6]) (.cons rfl (.cons rfl (.cons rfl .nil))) fun base => ?_))
    refine tr_seq (tr_region (tmv rfl (tnc rfl (trl_pv (pv_fieldAddr runUnderlying178 rfl sizeOf176 rfl rfl) (trl_val (rv_load isAgg176 rfl (by with_reducible repeat constructor) rfl) ?_)))))
    refine trl_val (rv_len_sl runUnderlying176 rfl (by with_reducible repeat constructor)) ?_
    refine tas rfl (trl_nil (tr_seq (tr_region (tmv rfl (trl_eff (ef_make (sh.length) runUnderlying192 typeInfo194 sizeOf194 zeroValue194 rfl (by dsimp only [cellsL, List.toList_toArray]) rfl rfl rfl (by rw [show Tryz.t194.bytes = 8 from rfl]; omega) fun r56 => ?_))))))
    refine tas rfl (trl_nil (tr_keep (ks := [0,5,6,7,8]) (.cons rfl (.cons rfl (.cons rfl (.cons rfl (.cons rfl .nil))))) fun base => ?_))
    refine tr_seq (tr_seq (tr_region (tmv rfl (tmv rfl (trl_nil (tr_block (tr_while (α := Nat) (0) (fun i => sh.length - i) (fun i => [(0, .pointer (some ⟨r, 0, none⟩)), (5, .int .i64 ((k : Int) % (s0.1 : Int))), (6, .int .i64 ((k : Int) / (s0.1 : Int))), (7, .int .i64 (sh.length : Nat)), (8, .slice (some ⟨r56, 0, none⟩) sh.length sh.length), (57, .int .i64 (sh.length : Nat)), (58, .int .i64 (i : Nat))]) (fun i => [pure' (i ≤ sh.length), pt r 178 [v], Sl 181 3 sh.length v (lvCells sh ps), pt r56 194 (List.replicate (sh.length - i) (.pointer none) ++ ((fptr sh ps k).take i).reverse)]) (ks := [0,5,6,7,8,57,58]) (.cons rfl (.cons rfl (.cons rfl (.cons rfl (.cons rfl (.cons rfl (.cons rfl .nil))))))) (by rw [zeros_ptr]; rw [Nat.sub_zero, List.take_zero, List.reverse_nil, List.append_nil]; exact holds_pure (Nat.zero_le _) (holds_of_picks (by with_reducible repeat constructor))) ?_)))))))
    intro i base ih0
    refine Tr.pure fun hi => ?_
    refine tr_seq (tr_region (trl_pv (pv_lss rfl rfl) (trl_nil (tr_seq (tr_if rfl (fun h1 => ?_) (fun h1 => ?_))))))
    ·refine tr_skip (tr_seq (tr_block (tr_seq ?_)))
     obtain ⟨s, hs⟩ := get_some (l := sh) (i := i) (by omega)
     obtain ⟨p, hp⟩ := get_some (l := ps) (i := i) (by omega)
     have hx := fptr_xy hF.1 hs0 hkl hs hp
     have hwi := hF.2.2 i s hs
     have hidx := idx_lt hx.2.1 hx.2.2
     refine tr_region (tmv rfl (tas rfl (trl_nil (tr_draww (rem := [0,1,2,3,4,5,6,7,8,9,10,11,12,13,14,15,16,17,18,19,20]) (by kernel_rfl) (by kernel_rfl) rfl ?_))))
     refine twm 0 [19,20] rfl (by kernel_rfl) rfl rfl (twm 1 [2,4,19,20] rfl (by kernel_rfl) rfl rfl (trw_pure 2 [4,19,20] rfl (by kernel_rfl) rfl (pv_subI rfl rfl (by omega) (by omega)) ?_))
     refine twm 3 [4,19,20] rfl (by kernel_rfl) rfl rfl (trw_pure 4 [19,20] rfl (by kernel_rfl) rfl (pv_subI rfl rfl (by omega) (by omega)) ?_)
     refine twm 5 [6,7,8,10,11,18,19,20] rfl (by kernel_rfl) rfl rfl (twn 6 [7,8,10,11,18,19,20] rfl (by kernel_rfl) rfl rfl (trw_pure 7 [8,10,11,18,19,20] rfl (by kernel_rfl) rfl (pv_fieldAddr runUnderlying178 rfl sizeOf176 rfl rfl) (twm 9 [10,11,18,19,20] rfl (by kernel_rfl) rfl rfl (twm 12 [14,18,19,20] rfl (by kernel_rfl) rfl rfl (twm 13 [14,18,19,20] rfl (by kernel_rfl) rfl rfl (trw_pure 14 [18,19,20] rfl (by kernel_rfl) rfl (pv_conv (pv_shrI rfl rfl (by omega) (by omega)) (congrArg (Value.int .i64) (shr_mod k s0.1 i))) ?_))))))
     refine twm 15 [17,18,19,20] rfl (by kernel_rfl) rfl rfl (twm 16 [17,18,19,20] rfl (by kernel_rfl) rfl rfl (trw_pure 17 [18,19,20] rfl (by kernel_rfl) rfl (pv_conv (pv_shrI rfl rfl (by omega) (by omega)) (congrArg (Value.int .i64) (shr_div k s0.1 i))) ?_))
     refine trw_read 8 [10,11,18,19,20] rfl (by kernel_rfl) rfl (rv_load isAgg176 rfl (by with_reducible repeat constructor) rfl) ?_
     refine trw_read 10 [11,18,19,20] rfl (by kernel_rfl) rfl (rv_indexAddr_sl runUnderlying176 sizeOf181 rfl rfl (by with_reducible repeat constructor) (by omega) (by omega)) ?_
     refine trw_read 11 [18,19,20] rfl (by kernel_rfl) rfl (rv_load_agg_sl isAgg181 sizeOf181 rfl (by with_reducible repeat constructor) rfl (lv_part hs hp) (by omega)) ?_
     refine trw_one 18 (by kernel_rfl) ?_
     refine trwat_eff rfl rfl rfl (ef_call rfl rfl call108 (grid_at (w := s.1) (h := s.2) (p := p) (n := s.1 * s.2) (x := k % s0.1 / 2 ^ i) (y := k / s0.1 / 2 ^ i) hidx hwi) (by with_reducible repeat constructor) fun x79 hx79 => ?_)
     dsimp only [List.cons_append, List.nil_append]
     refine ⟨?_, trivial⟩
     refine trw_pure 19 [20] rfl (by kernel_rfl) rfl (pv_indexAddr runUnderlying192 sizeOf194 rfl rfl (by omega) (by omega)) ?_
     refine trw_one 20 (by kernel_rfl) ?_
     refine trwat_eff0 rfl rfl rfl (ef_store_s sizeOf194 rfl rfl rfl (by with_reducible repeat constructor) (by simp; omega) ?_)
     refine ⟨?_, trivial⟩
     refine trw_nil (tr_keep (ks := [0,5,6,7,8,57,58]) (.cons rfl (.cons rfl (.cons rfl (.cons rfl (.cons rfl (.cons rfl (.cons rfl .nil))))))) fun base => ?_)
     refine tr_inBlock (tr_region (trl_pv (pv_addI rfl rfl (by omega) (by omega)) ?_))
     refine tmv rfl (trl_nil (tr_again ih0 (i + 1) (by first | omega | (dsimp only; omega)) (.cons rfl (.cons rfl (.cons rfl (.cons rfl (.cons rfl (.cons rfl (.cons (keep_int rfl (by omega)) .nil))))))) (by rw [take_rev hx.1, show 0 + ((sh.length : Int) - 1 - (i : Int)).toNat * 1 = sh.length - 1 - i by omega, set_rev (by omega)]; exact holds_pure (by omega) (holds_of_picks (by with_reducible repeat constructor)))))
    ·refine tr_exit rfl (tr_seq (tr_region (tmv rfl (tas rfl (trl_nil (tr_keep (ks := [4]) (.cons rfl .nil) fun base => ?_))))))
     obtain rfl : i = sh.length := by omega
     rw [Nat.sub_self, List.replicate_zero, List.nil_append, List.take_of_length_le (by rw [fptr_length _ _ _ hl]; exact Nat.le_refl _)]
     refine Tr.fold (sl_of_pt (n := sh.length) (sz := 1) (cells := (fptr sh ps k).reverse) (by rw [List.length_reverse, fptr_length _ _ _ hl]; omega)) (by with_reducible repeat constructor) ?_
     have hz := tway_some hs0 hkl
     have hz2 := tptr_some ps hs0 hkl
     rw [hz, hz2, List.length_reverse, fpath_length]
     refine tr_ret func106 rfl .nil (by kernel_rfl) (.tmp rfl .nil) (.slice (some ⟨r56, 0, none⟩) sh.length sh.length) rfl rfl (holds_of_picks (by with_reducible repeat constructor))
end Go.Proofs
