/- Contracts of functions that the law reaches, in every memory (part Q12). -/
import Derived.Test.YtbmfgngjcpmjeaaGreatQ11
set_option linter.unusedVariables false
set_option linter.unusedSimpArgs false
set_option maxRecDepth 10000
namespace Go.Proofs
open Go.Eng Tryz
theorem bump_lt {x : Int} {p : Nat} (h0 : 0 ≤ x) (hx : x < 2 ^ 30) (hp : p ≤ 30) (h : 0 < x / 2 ^ p) : p < 30 := by
  rcases Nat.lt_or_ge p 30 with h1 | h1
  · exact h1
  · obtain rfl : p = 30 := by omega
    rw [Int.ediv_eq_zero_of_lt h0 hx] at h; omega
theorem bump_go {x : Int} {p q : Nat} (hp : p < 30) (h : 0 < x / 2 ^ p) (hb : bumpF (31 - p) x p = q) : bumpF (31 - (p + 1)) x (p + 1) = q := by
  rw [← hb, show 31 - p = (31 - (p + 1)) + 1 by omega]
  exact (if_pos h).symm
theorem bump_end {x : Int} {p q : Nat} (hp : p ≤ 30) (h : ¬ 0 < x / 2 ^ p) (hb : bumpF (31 - p) x p = q) : p = q := by
  rw [← hb, show 31 - p = (30 - p) + 1 by omega]
  exact (if_neg h).symm
theorem cb_fold_w {g : Cg} {c : Cd} {t : List Value} {w h : Nat} {mag : List Int} (hw : g.w = w) (hh : g.h = h) :
    Fold [pt g.r 133 (cdH g ++ cxC c.cx ++ t), Sl 3 1 (w * h) g.m (i64s mag), Sl 3 1 (w * h) g.n (i64s c.neg), Sl 4 1 (w * h) g.s (bools c.sig), Sl 4 1 (w * h) g.e (bools c.seen), Sl 4 1 (w * h) g.a (bools c.again)] (CB { g with mag := mag } c t) := by
  subst hw; subst hh
  exact cb_fold (g := { g with mag := mag })
theorem cd_new {g : Cg} {c : Cd} {b : Bool} {rE rW : Nat} : Fold [pt g.r 133 (cdH g ++ cxC c.cx ++ [.bool true, .bool b, .pointer (some ⟨rE, 0, none⟩), .pointer (some ⟨rW, 0, none⟩), .pointer none, .pointer none]), Sl 3 1 (g.w * g.h) g.m (i64s g.mag), Sl 3 1 (g.w * g.h) g.n (i64s c.neg), Sl 4 1 (g.w * g.h) g.s (bools c.sig), Sl 4 1 (g.w * g.h) g.e (bools c.seen), Sl 4 1 (g.w * g.h) g.a (bools c.again), ME rE newE, RW5 rW newW]
    (CD { g with raw := b, rE := rE, rW := rW } { c with raw := b, e := newE, rw := newW }) := cd_fold (g := { g with raw := b, rE := rE, rW := rW }) (c := { c with raw := b, e := newE, rw := newW })
theorem pcq {q : List (Int × Bool)} {j : Nat} (h : j < q.length) : (passC q)[((j : Nat) : Int).toNat * 2 + 0]? = some (.int .i64 (q.getD j (0, false)).1) := by
  have hx : q[j]? = some (q.getD j (0, false)) := by rw [List.getD_eq_getElem?_getD, List.getElem?_eq_getElem h]; rfl
  exact pc_part (i := j) hx 0 (by decide)
theorem pcq_set {q : List (Int × Bool)} {j : Nat} {a : Int} (h : j < q.length) : (passC q).set (((j : Nat) : Int).toNat * 2 + 0) (.int .i64 a) = passC (q.set j (a, (q.getD j (0, false)).2)) := by
  have hx : q[j]? = some (q.getD j (0, false)) := by rw [List.getD_eq_getElem?_getD, List.getElem?_eq_getElem h]; rfl
  exact flat_set encP_len (o := 0) (x' := (a, (q.getD j (0, false)).2)) hx (by decide) rfl
set_option maxHeartbeats 4000000 in
theorem k_encode {w h : Nat} {band style : Int} {v : List Int} {vv : Value} (hw1 : 1 ≤ w) (hw : w ≤ 64) (hh1 : 1 ≤ h) (hh : h ≤ 64) (hb0 : 0 ≤ band) (hb1 : band ≤ 3) (hs0 : 0 ≤ style) (hs1 : style ≤ 63) (hv : v.length = w * h) (hq : ∀ x ∈ v, -1073741824 < x ∧ x < 1073741824) :
    Spec Tryz.prog 17 [.int .i64 (w : Nat), .int .i64 (h : Nat), .int .i64 band, .int .i64 style, vv] [Sl 3 1 (w * h) vv (i64s v)]
    (fun x : Value × Value => ⟨.tuple #[.agg #[.int .i64 (planesF v : Nat), x.1, x.2], .int .i64 0], one? x.1 = true ∧ one? x.2 = true, [Sl 3 1 (w * h) vv (i64s v), Sl 90 2 (codeF w h band style v).ps.length x.1 (passC (codeF w h band style v).ps), Sl 5 1 (codeF w h band style v).bys.length x.2 (u8s (codeF w h band style v).bys)]⟩) := by
 refine spec_of_tr func17 rfl ntmps17 (by kernel_rfl) ?_
 have hm : w * h ≤ 64 * 64 := Nat.mul_le_mul hw hh
 refine tr_seq (tr_region (trl_eff (ef_alloc zeroValue51 (by dsimp only [cellsL, List.toList_toArray]) fun r10 => ?_)))
 refine tas rfl (trl_nil (tr_seq (tr_seq (tr_region (tmv rfl (tmv rfl (tmv rfl (tmv rfl (trl_eff (ef_call rfl rfl call52 (k_may hw1 hw hh1 hh hb0 hb1 hs0 hs1) (by with_reducible repeat constructor) fun x28 hx28 => ?_))))))))))
 dsimp only [List.cons_append, List.nil_append]
 refine trl_pv (pv_not rfl) (trl_nil (tr_else rfl rfl ?_))
 refine tr_skip (tr_seq (tr_seq (tr_region (tmv rfl (trl_val (rv_len_sl runUnderlying38 rfl (by with_reducible repeat constructor)) ?_)))))
 refine tmv rfl (tmv rfl (trl_pv (pv_conv (pv_mulI rfl rfl (by omega) (by omega)) (congrArg (Value.int .i64) (show (w : Int) * (h : Int) = ((w * h : Nat) : Int) from by simp))) ?_))
 refine trl_pv (pv_neq rfl rfl) (trl_nil (tr_keep (ks := [0,1,2,3,4,10,36]) (.cons rfl (.cons rfl (.cons rfl (.cons rfl (.cons rfl (.cons rfl (.cons rfl .nil))))))) fun base => ?_))
 refine tr_else rfl (decide_eq_false (fun hne => hne rfl)) ?_
 refine tr_skip (tr_seq (tr_region (tmv rfl (tmv rfl (tmv rfl (tmv rfl (trl_eff (ef_call rfl rfl call53 (k_begin hw hh) (by with_reducible repeat constructor) fun bx hx42 => ?_))))))))
 dsimp only [List.cons_append, List.nil_append]
 refine tas rfl (trl_nil (tr_keep (ks := [3,4,10,12]) (.cons rfl (.cons rfl (.cons rfl (.cons rfl .nil)))) fun base => ?_))
 refine tr_seq ?_
 have hg0 : GS (gB w h band style bx) w h band style (List.replicate (w * h) 0) := ⟨gB_ok hw1 hw hh1 hh bx, rfl, rfl, rfl, rfl, rfl⟩
 generalize gB w h band style bx = g at hg0 ⊢
 have hg := hg0.ok
 refine Tr.unfold cb_open (by with_reducible repeat constructor) fun _ _ => ?_
 dsimp only [cbP, cB, List.cons_append, List.nil_append]
 rw [hg0.w, hg0.h, hg0.mag]
 refine tr_region (tmv rfl (tnc rfl (trl_pv (pv_fieldAddr runUnderlying133 rfl sizeOf4 rfl rfl) (trl_eff0 (ef_store_set sizeOf4 rfl rfl rfl (by with_reducible repeat constructor) (by rw [cell_len freshCx_ok.1 rfl]; decide) (show (cdH g ++ cxC freshCx ++ tB).set 47 (.bool true) = cdH g ++ cxC freshCx ++ [.bool true, .bool false, .pointer none, .pointer none, .pointer none, .pointer none] from cell_set freshCx_ok.1 0 _) ?_)))))
 refine trl_nil (tr_seq (tr_region (trl_pv (pv_build (pl := [(0, 1), (1, 1), (2, 1)]) runUnderlying51 zeroValue51 (fun w => by simp [sizeOf3, sizeOf30, sizeOf49]) (by dsimp only [cellsL, List.toList_toArray]) rfl rfl) ?_)))
 refine trl_eff (ef_alloc zeroValue51 (by dsimp only [cellsL, List.toList_toArray]) fun r13 => ?_)
 refine trl_eff0 (ef_store_agg sizeOf51 rfl rfl rfl (by with_reducible repeat constructor) rfl ?_)
 refine trl_nil (tr_seq (tr_seq (tr_region (tas rfl (trl_nil (tr_block (tr_while (α := Nat) (0) (fun i => w * h - i) (fun i => [(3, .int .i64 style), (4, vv), (10, .pointer (some ⟨r10, 0, none⟩)), (12, g.p), (13, .pointer (some ⟨r13, 0, none⟩)), (14, .int .i64 ((i : Nat) : Int))]) (fun i => [pure' (i ≤ w * h ∧ planesAt v i ≤ 30), pt g.r 133 (cdH g ++ cxC freshCx ++ [.bool true, .bool false, .pointer none, .pointer none, .pointer none, .pointer none]), Sl 3 1 (w * h) g.m (i64s (magsAt v i)), Sl 3 1 (w * h) g.n (i64s (negsAt v i)), Sl 4 1 (w * h) g.s (bools (List.replicate (w * h) false)), Sl 4 1 (w * h) g.e (bools (List.replicate (w * h) false)), Sl 4 1 (w * h) g.a (bools (List.replicate (w * h) false)), pt r13 51 [.int .i64 ((planesAt v i : Nat) : Int), .slice none 0 0, .slice none 0 0], Sl 3 1 (w * h) vv (i64s v), pt r10 51 [.int .i64 0, .slice none 0 0, .slice none 0 0]]) (ks := [3,4,10,12,13,14]) (.cons rfl (.cons rfl (.cons rfl (.cons rfl (.cons rfl (.cons rfl .nil)))))) (by rw [mags_zero, negs_zero, hv, show ((planesAt v 0 : Nat) : Int) = 0 from rfl]; exact holds_pure ⟨Nat.zero_le _, Nat.zero_le _⟩ (holds_of_picks (by with_reducible repeat constructor))) ?_)))))))
 intro i base ih0
 refine Tr.pure fun ⟨hi, hp30⟩ => ?_
 refine tr_seq (tr_seq (tr_region (tmv rfl (tmv rfl (trl_val (rv_len_sl runUnderlying38 rfl (by with_reducible repeat constructor)) ?_)))))
 refine trl_pv (pv_lss rfl rfl) (trl_nil (tr_if rfl (fun h2 => ?_) (fun h2 => ?_)))
 ·refine tr_skip (tr_seq (tr_block (tr_seq (tr_seq ?_))))
  have hlt : i < w * h := by omega
  obtain ⟨x, hx⟩ := get_some (l := v) (i := i) (by omega)
  have hb := hq x (List.mem_of_getElem? hx)
  refine tr_region (tmv rfl (tmv rfl (trl_val (rv_indexAddr_sl runUnderlying38 sizeOf3 rfl rfl (by with_reducible repeat constructor) (by omega) (by omega)) ?_)))
  refine trl_val (rv_load_sl isAgg3 rfl (by with_reducible repeat constructor) (idx1 (i64s_get hx))) ?_
  refine trl_pv (pv_gtr rfl rfl) (tmv rfl (trl_pvg rfl (decide_eq_false (by omega)) (pv_move rfl) ?_))
  refine trl_pvg rfl (decide_eq_false (by omega)) (pv_move rfl) ?_
  refine trl_valg rfl (decide_eq_false (by omega)) (rv_indexAddr_sl runUnderlying38 sizeOf3 rfl rfl (by with_reducible repeat constructor) (by omega) (by omega)) ?_
  refine trl_valg rfl (decide_eq_false (by omega)) (rv_load_sl isAgg3 rfl (by with_reducible repeat constructor) (idx1 (i64s_get hx))) ?_
  refine trl_pvg rfl (decide_eq_false (by omega)) (pv_lss rfl rfl) ?_
  refine trl_pv (pv_pick_f rfl (decide_eq_false (by omega)) rfl) ?_
  refine trl_nil (tr_keep (ks := [3,4,10,12,13,14,64]) (.cons rfl (.cons rfl (.cons rfl (.cons rfl (.cons rfl (.cons rfl (.cons rfl .nil))))))) fun base => ?_)
  refine tr_else rfl (decide_eq_false (by omega)) ?_
  refine tr_skip (tr_seq (tr_draww (rem := [0,1,2,3,4,5,6,7,8,9,10,11,12,13,14,15,16]) (by kernel_rfl) (by kernel_rfl) rfl ?_))
  refine twm 0 [1,2,3,15,16] rfl (by kernel_rfl) rfl rfl (twn 1 [2,3,15,16] rfl (by kernel_rfl) rfl rfl (trw_pure 2 [3,15,16] rfl (by kernel_rfl) rfl (pv_fieldAddr runUnderlying133 rfl sizeOf38 rfl rfl) (twm 4 [15,16] rfl (by kernel_rfl) rfl rfl (twm 5 [7,8,14,15,16] rfl (by kernel_rfl) rfl rfl (twm 6 [7,8,14,15,16] rfl (by kernel_rfl) rfl rfl (twm 9 [11,12,13,14,15,16] rfl (by kernel_rfl) rfl rfl (twm 10 [11,12,13,14,15,16] rfl (by kernel_rfl) rfl rfl (trw_read 3 [15,16] rfl (by kernel_rfl) rfl (rv_load isAgg38 rfl (by with_reducible repeat constructor) rfl) ?_))))))))
  refine trw_read 7 [8,14,15,16] rfl (by kernel_rfl) rfl (rv_indexAddr_sl runUnderlying38 sizeOf3 rfl rfl (by with_reducible repeat constructor) (by omega) (by omega)) ?_
  refine trw_read 8 [14,15,16] rfl (by kernel_rfl) rfl (rv_load_sl isAgg3 rfl (by with_reducible repeat constructor) (idx1 (i64s_get hx))) ?_
  refine trw_read 11 [12,13,14,15,16] rfl (by kernel_rfl) rfl (rv_indexAddr_sl runUnderlying38 sizeOf3 rfl rfl (by with_reducible repeat constructor) (by omega) (by omega)) ?_
  refine trw_read 12 [13,14,15,16] rfl (by kernel_rfl) rfl (rv_load_sl isAgg3 rfl (by with_reducible repeat constructor) (idx1 (i64s_get hx))) ?_
  refine trw_pure 13 [14,15,16] rfl (by kernel_rfl) rfl (pv_subI rfl rfl (by omega) (by omega)) ?_
  refine trw_pure 14 [15,16] rfl (by kernel_rfl) rfl (pv_maxI rfl rfl) (trw_pure 15 [16] rfl (by kernel_rfl) rfl (pv_indexAddr_v runUnderlying38 sizeOf3 rfl rfl hg.m (Int.natCast_nonneg _) (Int.ofNat_lt.2 (by rw [hg0.w, hg0.h]; exact hlt))) ?_)
  refine trw_one 16 (by kernel_rfl) ?_
  refine trwat_eff0 rfl rfl rfl (ef_store_sl sizeOf3 rfl rfl rfl (by with_reducible repeat constructor) (by unfold i64s; rw [List.length_map, magsAt_len (by omega)]; omega) (mags_put hx) ?_)
  refine ⟨?_, trivial⟩
  refine trw_nil (tr_keep (ks := [3,4,10,12,13,14]) (.cons rfl (.cons rfl (.cons rfl (.cons rfl (.cons rfl (.cons rfl .nil)))))) fun base => ?_)
  refine tr_seq (tr_draww (rem := [0,1,2,3,4,5,6,7,8,9,10,11,12]) (by kernel_rfl) (by kernel_rfl) rfl ?_)
  refine twm 0 [1,2,3,11,12] rfl (by kernel_rfl) rfl rfl (twn 1 [2,3,11,12] rfl (by kernel_rfl) rfl rfl (trw_pure 2 [3,11,12] rfl (by kernel_rfl) rfl (pv_fieldAddr runUnderlying133 rfl sizeOf38 rfl rfl) (twm 4 [11,12] rfl (by kernel_rfl) rfl rfl (twm 5 [7,8,9,10,11,12] rfl (by kernel_rfl) rfl rfl (twm 6 [7,8,9,10,11,12] rfl (by kernel_rfl) rfl rfl (trw_read 3 [11,12] rfl (by kernel_rfl) rfl (rv_load isAgg38 rfl (by with_reducible repeat constructor) rfl) ?_))))))
  refine trw_read 7 [8,9,10,11,12] rfl (by kernel_rfl) rfl (rv_indexAddr_sl runUnderlying38 sizeOf3 rfl rfl (by with_reducible repeat constructor) (by omega) (by omega)) ?_
  refine trw_read 8 [9,10,11,12] rfl (by kernel_rfl) rfl (rv_load_sl isAgg3 rfl (by with_reducible repeat constructor) (idx1 (i64s_get hx))) ?_
  refine trw_pure 9 [10,11,12] rfl (by kernel_rfl) rfl (pv_lss rfl rfl) (trw_one 10 (by kernel_rfl) ?_)
  refine trwat_eff rfl rfl rfl (ef_call rfl rfl call54 (k_one) (by with_reducible repeat constructor) fun x92 hx92 => ?_)
  dsimp only [List.cons_append, List.nil_append]
  refine ⟨?_, (rv_load isAgg38 rfl (by with_reducible repeat constructor) rfl), trivial⟩
  refine trw_pure 11 [12] rfl (by kernel_rfl) rfl (pv_indexAddr_v runUnderlying38 sizeOf3 rfl rfl hg.n (Int.natCast_nonneg _) (Int.ofNat_lt.2 (by rw [hg0.w, hg0.h]; exact hlt))) ?_
  refine trw_one 12 (by kernel_rfl) ?_
  refine trwat_eff0 rfl rfl rfl (ef_store_sl sizeOf3 rfl rfl rfl (by with_reducible repeat constructor) (by unfold i64s; rw [List.length_map, negsAt_len (by omega)]; omega) (negs_put hx) ?_)
  refine ⟨?_, trivial⟩
  refine trw_nil (tr_keep (ks := [3,4,10,12,13,14]) (.cons rfl (.cons rfl (.cons rfl (.cons rfl (.cons rfl (.cons rfl .nil)))))) fun base => ?_)
  refine tr_block (tr_while (α := Nat) ((planesAt v i)) (fun p => 31 - p) (fun p => [(3, .int .i64 style), (4, vv), (10, .pointer (some ⟨r10, 0, none⟩)), (12, g.p), (13, .pointer (some ⟨r13, 0, none⟩)), (14, .int .i64 ((i : Nat) : Int))]) (fun p => [pure' (p ≤ 30 ∧ bumpF (31 - p) (max x (0 - x)) p = planesAt v (i + 1)), pt g.r 133 (cdH g ++ cxC freshCx ++ [.bool true, .bool false, .pointer none, .pointer none, .pointer none, .pointer none]), Sl 3 1 (w * h) g.m (i64s (magsAt v (i + 1))), Sl 3 1 (w * h) g.n (i64s (negsAt v (i + 1))), Sl 4 1 (w * h) g.s (bools (List.replicate (w * h) false)), Sl 4 1 (w * h) g.e (bools (List.replicate (w * h) false)), Sl 4 1 (w * h) g.a (bools (List.replicate (w * h) false)), pt r13 51 [.int .i64 ((p : Nat) : Int), .slice none 0 0, .slice none 0 0], Sl 3 1 (w * h) vv (i64s v), pt r10 51 [.int .i64 0, .slice none 0 0, .slice none 0 0]]) (ks := [3,4,10,12,13,14]) (.cons rfl (.cons rfl (.cons rfl (.cons rfl (.cons rfl (.cons rfl .nil)))))) (holds_pure ⟨hp30, (planesAt_succ hx).symm⟩ (holds_of_picks (by with_reducible repeat constructor))) ?_)
  intro p base ih1
  refine Tr.pure fun ⟨hp9, hbp⟩ => ?_
  refine tr_seq (tr_seq (tr_draww (rem := [0,1,2,3,4,5,6,7,8,9,10,11]) (by kernel_rfl) (by kernel_rfl) rfl ?_))
  refine twm 0 [1,2,3,5,6,10,11] rfl (by kernel_rfl) rfl rfl (twn 1 [2,3,5,6,10,11] rfl (by kernel_rfl) rfl rfl (trw_pure 2 [3,5,6,10,11] rfl (by kernel_rfl) rfl (pv_fieldAddr runUnderlying133 rfl sizeOf38 rfl rfl) (twm 4 [5,6,10,11] rfl (by kernel_rfl) rfl rfl (trw_pure 7 [8,9,10,11] rfl (by kernel_rfl) rfl (pv_fieldAddr runUnderlying51 rfl sizeOf3 rfl rfl) (trw_read 3 [5,6,10,11] rfl (by kernel_rfl) rfl (rv_load isAgg38 rfl (by with_reducible repeat constructor) rfl) ?_)))))
  refine trw_pure 5 [6,10,11] rfl (by kernel_rfl) rfl (pv_indexAddr_v runUnderlying38 sizeOf3 rfl rfl hg.m (Int.natCast_nonneg _) (Int.ofNat_lt.2 (by rw [hg0.w, hg0.h]; exact hlt))) ?_
  refine trw_read 6 [10,11] rfl (by kernel_rfl) rfl (rv_load_sl isAgg3 rfl (by with_reducible repeat constructor) (mags_get hx)) ?_
  refine trw_read 8 [9,10,11] rfl (by kernel_rfl) rfl (rv_load isAgg3 rfl (by with_reducible repeat constructor) rfl) ?_
  refine trw_pure 9 [10,11] rfl (by kernel_rfl) rfl (pv_conv (pv_convert runUnderlying3 runUnderlying104 rfl) (congrArg (Value.int .u64) (wrapu64_id (by omega) (by omega)))) ?_
  refine trw_pure 10 [11] rfl (by kernel_rfl) rfl (pv_shrI rfl rfl (by omega) (by omega)) ?_
  refine trw_pure 11 [] rfl (by kernel_rfl) rfl (pv_gtr rfl rfl) (trw_nil (tr_keep (ks := [3,4,10,12,13,14,105]) (.cons rfl (.cons rfl (.cons rfl (.cons rfl (.cons rfl (.cons rfl (.cons rfl .nil))))))) fun base => ?_))
  refine tr_if rfl (fun h4 => ?_) (fun h4 => ?_)
  ·refine tr_skip (tr_block ?_)
   have hp29 := bump_lt (x := max x (0 - x)) (by omega) (by omega) hp9 h4
   refine tr_region (trl_pv (pv_fieldAddr runUnderlying51 rfl sizeOf3 rfl rfl) (trl_val (rv_load isAgg3 rfl (by with_reducible repeat constructor) rfl) ?_))
   refine trl_pv (pv_conv (pv_addI rfl rfl (by omega) (by omega)) (congrArg (Value.int .i64) (show (p : Int) + 1 = ((p + 1 : Nat) : Int) from by omega))) ?_
   refine trl_pv (pv_fieldAddr runUnderlying51 rfl sizeOf3 rfl rfl) (trl_eff0 (ef_store sizeOf3 rfl rfl (by first | rfl | assumption) (by with_reducible repeat constructor) rfl ?_))
   refine trl_nil (tr_inBlock (tr_again ih1 (p + 1) (by first | omega | (dsimp only; omega)) (.cons rfl (.cons rfl (.cons rfl (.cons rfl (.cons rfl (.cons rfl .nil)))))) (holds_pure ⟨by omega, bump_go hp29 h4 hbp⟩ (holds_of_picks (by with_reducible repeat constructor)))))
  ·refine tr_exit rfl (tr_inBlock ?_)
   obtain rfl := bump_end hp9 h4 hbp
   refine tr_region (tmv rfl (trl_pv (pv_addI rfl rfl (by omega) (by omega)) ?_))
   refine tas rfl (trl_nil (tr_again ih0 (i + 1) (by first | omega | (dsimp only; omega)) (.cons rfl (.cons rfl (.cons rfl (.cons rfl (.cons rfl (.cons rfl .nil)))))) (holds_pure ⟨by omega, hp9⟩ (holds_of_picks (by with_reducible repeat constructor)))))
 ·refine tr_exit rfl (tr_seq ?_)
  obtain rfl : i = w * h := by omega
  rw [← hv, planesAt_end, mags_end, negs_end, hv]
  rw [← hv, planesAt_end] at hp30
  have hcn : cntN (planesF v) = 3 * planesF v - 2 := rfl
  have hc100 : cntN (planesF v) ≤ 100 := by omega
  refine tr_region (trl_pv (pv_fieldAddr runUnderlying51 rfl sizeOf3 rfl rfl) (trl_val (rv_load isAgg3 rfl (by with_reducible repeat constructor) rfl) ?_))
  refine trl_eff (ef_call rfl rfl call55 (cntN_spec (p := planesF v) (by omega)) (by with_reducible repeat constructor) fun x112 hx112 => ?_)
  dsimp only [List.cons_append, List.nil_append]
  refine tas rfl (trl_nil (tr_keep (ks := [3,10,12,13,15]) (.cons rfl (.cons rfl (.cons rfl (.cons rfl (.cons rfl .nil))))) fun base => ?_))
  refine tr_seq (tr_region (tas rfl (trl_nil (tr_seq (tr_seq (tr_region (tas rfl (trl_nil ?_))))))))
  refine Tr.fold (As := [pt g.r 133 (cdH g ++ cxC freshCx ++ [.bool true, .bool false, .pointer none, .pointer none, .pointer none, .pointer none]), Sl 3 1 (w * h) g.m (i64s (magsF v)), Sl 3 1 (w * h) g.n (i64s (negsF v)), Sl 4 1 (w * h) g.s (bools (List.replicate (w * h) false)), Sl 4 1 (w * h) g.e (bools (List.replicate (w * h) false)), Sl 4 1 (w * h) g.a (bools (List.replicate (w * h) false))]) (cb_fold_w (mag := magsF v) (c := cd0 w h band style v) (t := [.bool true, .bool false, .pointer none, .pointer none, .pointer none, .pointer none]) hg0.w hg0.h) (by with_reducible repeat constructor) ?_
  refine Tr.fold (cx_fold _ _ _) (by with_reducible repeat constructor) ?_
  refine tr_empty 90 2 none ?_
  refine tr_empty 5 1 none ?_
  refine tr_block (tr_while (α := Nat × Cg × Es8 × Value × Value) ((0, { g with mag := magsF v }, ⟨cd0 w h band style v, [], [], 0⟩, .slice none 0 0, .slice none 0 0)) (fun z => cntN (planesF v) - z.1) (fun z => [(3, .int .i64 style), (10, .pointer (some ⟨r10, 0, none⟩)), (12, z.2.1.p), (13, .pointer (some ⟨r13, 0, none⟩)), (15, .int .i64 (((cntN (planesF v)) : Nat) : Int)), (16, .int .i64 ((z.2.2.1.first : Nat) : Int)), (17, .int .i64 ((z.1 : Nat) : Int))]) (fun z => [pure' (z.1 ≤ cntN (planesF v) ∧ z.2.2.1 = atE w h band style v z.1 ∧ GS z.2.1 w h band style (magsF v) ∧ one? z.2.2.2.1 = true ∧ one? z.2.2.2.2 = true ∧ (z.1 ≠ z.2.2.1.first → z.2.1.raw = z.2.2.1.c.raw)), (if z.1 = z.2.2.1.first then CX z.2.1 z.2.2.1.c else CD z.2.1 z.2.2.1.c), pt r13 51 [.int .i64 (((planesF v) : Nat) : Int), z.2.2.2.1, z.2.2.2.2], Sl 90 2 z.2.2.1.ps.length z.2.2.2.1 (passC z.2.2.1.ps), Sl 5 1 z.2.2.1.bys.length z.2.2.2.2 (u8s z.2.2.1.bys), Sl 3 1 (w * h) vv (i64s v), pt r10 51 [.int .i64 0, .slice none 0 0, .slice none 0 0]]) (ks := [3,10,12,13,15,16,17]) (.cons rfl (.cons rfl (.cons rfl (.cons rfl (.cons rfl (.cons rfl (.cons rfl .nil))))))) (by dsimp only; rw [if_pos rfl, List.length_nil, List.length_nil, show passC [] = [] from rfl, u8s_nil]; exact holds_pure ⟨Nat.zero_le _, rfl, ⟨⟨hg.m, hg.n, hg.s, hg.e, hg.a, hg.w1, hg.w2, hg.h1, hg.h2⟩, hg0.w, hg0.h, hg0.band, hg0.style, rfl⟩, rfl, rfl, fun hne => absurd rfl hne⟩ (holds_of_picks (by with_reducible repeat constructor))) ?_)
  intro ⟨k, g1, s, pv, bv⟩ base ih2
  refine Tr.pure fun ⟨hk, hs, hgs, hpv, hbv, hraw⟩ => ?_
  dsimp only at hk hs hgs hpv hbv hraw ⊢
  have H := atE_inv (band := band) (style := style) hw1 hw hh1 hh hv hc100 k hk
  rw [← hs] at H
  have hfl := H.first
  have hln := H.len
  have hcx := H.ok.cx.1
  refine tr_seq (tr_seq (tr_region (tmv rfl (tmv rfl (trl_pv (pv_lss rfl rfl) (trl_nil (tr_if rfl (fun h5 => ?_) (fun h5 => ?_))))))))
  ·refine tr_skip (tr_seq (tr_block (tr_seq (tr_seq (tr_region (tmv rfl (tmv rfl (trl_pv (pv_eql rfl rfl) (trl_nil ?_)))))))))
   refine tr_join (α := Cg) (fun g2 => [(3, .int .i64 style), (10, .pointer (some ⟨r10, 0, none⟩)), (12, g2.p), (13, .pointer (some ⟨r13, 0, none⟩)), (15, .int .i64 (((cntN (planesF v)) : Nat) : Int)), (16, .int .i64 ((s.first : Nat) : Int)), (17, .int .i64 ((k : Nat) : Int))]) (fun g2 => [pure' (GS g2 w h band style (magsF v) ∧ g2.raw = (begK style k s).raw), CD g2 (begK style k s), pt r13 51 [.int .i64 (((planesF v) : Nat) : Int), pv, bv], Sl 90 2 s.ps.length pv (passC s.ps), Sl 5 1 s.bys.length bv (u8s s.bys), Sl 3 1 (w * h) vv (i64s v), pt r10 51 [.int .i64 0, .slice none 0 0, .slice none 0 0]]) (fun K6 hK6 => ?_) ?_
   ·refine tr_if rfl (fun h6 => ?_) (fun h6 => ?_)
    ·have hkf : k = s.first := by omega
     rw [if_pos hkf]
     refine Tr.unfold cx_open (by with_reducible repeat constructor) fun y _ => ?_
     dsimp only [List.cons_append, List.nil_append]
     refine Tr.unfold cb_open (by with_reducible repeat constructor) fun _ _ => ?_
     dsimp only [cbP, List.cons_append, List.nil_append]
     refine tr_seq (tr_region (tmv rfl (tmv rfl (tmv rfl (trl_eff (ef_call rfl rfl call56 (k_isRaw (style := style) (k := (k : Int)) (by omega) (by omega)) (by with_reducible repeat constructor) fun x124 hx124 => ?_))))))
     dsimp only [List.cons_append, List.nil_append]
     refine tnc rfl (trl_pv (pv_fieldAddr runUnderlying133 rfl sizeOf4 rfl rfl) (trl_eff0 (ef_store_set sizeOf4 rfl rfl rfl (by with_reducible repeat constructor) (by rw [cell_len hcx rfl]; decide) (show (cdH g1 ++ cxC s.c.cx ++ [.bool true, y.1, y.2.1, y.2.2, .pointer none, .pointer none]).set 48 (.bool (isRawF style (k : Int))) = cdH g1 ++ cxC s.c.cx ++ [.bool true, .bool (isRawF style (k : Int)), y.2.1, y.2.2, .pointer none, .pointer none] from cell_set hcx 1 _) ?_)))
     refine trl_nil (tr_keep (ks := [3,10,12,13,15,16,17]) (.cons rfl (.cons rfl (.cons rfl (.cons rfl (.cons rfl (.cons rfl (.cons rfl .nil))))))) fun base => ?_)
     refine tr_region (tmv rfl (tmv rfl (trl_eff (ef_call rfl rfl call57 (q_new) (by with_reducible repeat constructor) fun rE hx129 => ?_))))
     dsimp only [List.cons_append, List.nil_append]
     refine trl_eff (ef_call rfl rfl call58 (w_new) (by with_reducible repeat constructor) fun rW hx130 => ?_)
     dsimp only [List.cons_append, List.nil_append]
     refine tnc rfl (trl_pv (pv_fieldAddr runUnderlying133 rfl sizeOf128 rfl rfl) (trl_eff0 (ef_store_set sizeOf128 rfl rfl rfl (by with_reducible repeat constructor) (by rw [cell_len hcx rfl]; decide) (show (cdH g1 ++ cxC s.c.cx ++ [.bool true, .bool (isRawF style (k : Int)), y.2.1, y.2.2, .pointer none, .pointer none]).set 49 (.pointer (some ⟨rE, 0, none⟩)) = cdH g1 ++ cxC s.c.cx ++ [.bool true, .bool (isRawF style (k : Int)), .pointer (some ⟨rE, 0, none⟩), y.2.2, .pointer none, .pointer none] from cell_set hcx 2 _) ?_)))
     refine tnc rfl (trl_pv (pv_fieldAddr runUnderlying133 rfl sizeOf129 rfl rfl) (trl_eff0 (ef_store_set sizeOf129 rfl rfl rfl (by with_reducible repeat constructor) (by rw [cell_len hcx rfl]; decide) (show (cdH g1 ++ cxC s.c.cx ++ [.bool true, .bool (isRawF style (k : Int)), .pointer (some ⟨rE, 0, none⟩), y.2.2, .pointer none, .pointer none]).set 50 (.pointer (some ⟨rW, 0, none⟩)) = cdH g1 ++ cxC s.c.cx ++ [.bool true, .bool (isRawF style (k : Int)), .pointer (some ⟨rE, 0, none⟩), .pointer (some ⟨rW, 0, none⟩), .pointer none, .pointer none] from cell_set hcx 3 _) ?_)))
     refine trl_nil (tr_keep (ks := [3,10,12,13,15,16,17]) (.cons rfl (.cons rfl (.cons rfl (.cons rfl (.cons rfl (.cons rfl (.cons rfl .nil))))))) fun base => ?_)
     have hbk : begK style k s = { s.c with raw := isRawF style (k : Int), e := newE, rw := newW } := if_pos hkf
     refine Tr.fold (cd_new (g := g1) (c := s.c) (b := isRawF style (k : Int)) (rE := rE) (rW := rW)) (by with_reducible repeat constructor) ?_
     refine tr_meet hK6 { g1 with raw := isRawF style (k : Int), rE := rE, rW := rW } (.cons rfl (.cons rfl (.cons rfl (.cons rfl (.cons rfl (.cons rfl (.cons rfl .nil))))))) (by rw [hbk]; exact holds_pure ⟨⟨⟨hgs.ok.m, hgs.ok.n, hgs.ok.s, hgs.ok.e, hgs.ok.a, hgs.ok.w1, hgs.ok.w2, hgs.ok.h1, hgs.ok.h2⟩, hgs.w, hgs.h, hgs.band, hgs.style, hgs.mag⟩, rfl⟩ (holds_of_picks (by with_reducible repeat constructor)))
    ·have hkf : ¬ k = s.first := by omega
     rw [if_neg hkf]
     refine tr_skip ?_
     have hbk : begK style k s = s.c := if_neg hkf
     refine tr_meet hK6 g1 (.cons rfl (.cons rfl (.cons rfl (.cons rfl (.cons rfl (.cons rfl (.cons rfl .nil))))))) (by rw [hbk]; exact holds_pure ⟨hgs, hraw hkf⟩ (holds_of_picks (by with_reducible repeat constructor)))
   ·intro g2 base
    refine Tr.pure fun ⟨hg2, hr2⟩ => ?_
    have hfit := gs_fit hg2 H hr2 (by omega)
    refine tr_seq (tr_region (tmv rfl (tmv rfl (trl_pv (pv_fieldAddr runUnderlying51 rfl sizeOf3 rfl rfl) (trl_val (rv_load isAgg3 rfl (by with_reducible repeat constructor) rfl) ?_)))))
    refine trl_eff (ef_call rfl rfl call59 (k_pass hg2.ok hfit (by omega) (k := k) (planes := planesF v) (by omega) (by omega)) (by with_reducible repeat constructor) fun x139 hx139 => ?_)
    dsimp only [List.cons_append, List.nil_append]
    refine trl_nil ?_
    have ha := passF_adv hfit.ok k (planesF v)
    have hfit2 := hfit.adv ha (n := 100000) (by omega)
    generalize hc2 : passF (begK style k s) k (planesF v) = c2 at *
    have hle := hfit2.le
    have hlr := hfit2.lr
    have hcx2 := hfit2.ok.cx.1
    have hlP : (s.ps ++ [(outC c2, lastE style (cntN (planesF v)) k)]).length = k + 1 := by rw [List.length_append, hln]; rfl
    refine tr_seq (tr_region (tmv rfl (tnc rfl (trl_pv (pv_fieldAddr runUnderlying133 rfl sizeOf128 rfl rfl) (trl_val (rv_cd isAgg128 rfl (by with_reducible repeat constructor) (cd_at12 (by assumption))) ?_)))))
    refine trl_eff (ef_call rfl rfl call60 (cd_outlen hfit2) (by with_reducible repeat constructor) fun x144 hx144 => ?_)
    dsimp only [List.cons_append, List.nil_append]
    refine trl_pv (pv_addI rfl rfl (by omega) (by omega)) ?_
    refine tas rfl (trl_nil (tr_keep (ks := [3,10,12,13,15,16,17,18]) (.cons rfl (.cons rfl (.cons rfl (.cons rfl (.cons rfl (.cons rfl (.cons rfl (.cons rfl .nil)))))))) fun base => ?_))
    refine tr_seq (tr_seq (tr_region (tmv rfl (tnc rfl (trl_pv (pv_fieldAddr runUnderlying133 rfl sizeOf4 rfl rfl) (trl_val (rv_cd isAgg4 rfl (by with_reducible repeat constructor) (cd_at11 (by assumption))) ?_))))))
    refine trl_nil ?_
    refine tr_join (α := Unit) (fun _ => [(3, .int .i64 style), (10, .pointer (some ⟨r10, 0, none⟩)), (12, g2.p), (13, .pointer (some ⟨r13, 0, none⟩)), (15, .int .i64 (((cntN (planesF v)) : Nat) : Int)), (16, .int .i64 ((s.first : Nat) : Int)), (17, .int .i64 ((k : Nat) : Int)), (18, .int .i64 (outC c2))]) (fun _ => [CD g2 c2, pt r13 51 [.int .i64 (((planesF v) : Nat) : Int), pv, bv], Sl 90 2 s.ps.length pv (passC s.ps), Sl 5 1 s.bys.length bv (u8s s.bys), Sl 3 1 (w * h) vv (i64s v), pt r10 51 [.int .i64 0, .slice none 0 0, .slice none 0 0]]) (fun K7 hK7 => ?_) ?_
    ·refine tr_ifb rfl (fun h7 => ?_) (fun h7 => ?_)
     ·refine tr_region (tmv rfl (tnc rfl (trl_pv (pv_fieldAddr runUnderlying133 rfl sizeOf129 rfl rfl) (trl_val (rv_cd isAgg129 rfl (by with_reducible repeat constructor) (cd_at13 (by assumption))) ?_))))
      refine trl_eff (ef_call rfl rfl call61 (cd_rawout hfit2) (by with_reducible repeat constructor) fun x154 hx154 => ?_)
      dsimp only [List.cons_append, List.nil_append]
      refine tas rfl (trl_nil (tr_keep (ks := [3,10,12,13,15,16,17,18]) (.cons rfl (.cons rfl (.cons rfl (.cons rfl (.cons rfl (.cons rfl (.cons rfl (.cons rfl .nil)))))))) fun base => ?_))
      refine tr_meet hK7 () (.cons rfl (.cons rfl (.cons rfl (.cons rfl (.cons rfl (.cons rfl (.cons rfl (.cons (keep_int rfl (show rawOut c2.rw = outC c2 from (if_pos (by rw [hfit2.raw]; exact h7)).symm)) .nil)))))))) (holds_of_picks (by with_reducible repeat constructor))
     ·refine tr_skip (tr_meet hK7 () (.cons rfl (.cons rfl (.cons rfl (.cons rfl (.cons rfl (.cons rfl (.cons rfl (.cons (keep_int rfl (show (c2.e.b.length : Int) - 1 + 5 = outC c2 from (if_neg (by rw [hfit2.raw, h7]; decide)).symm)) .nil)))))))) (holds_of_picks (by with_reducible repeat constructor)))
    ·intro u base
     refine tr_seq (tr_region (tmv rfl (tmv rfl (trl_eff (ef_call rfl rfl call62 (r_ends8 (style := style) (k := (k : Int)) (by omega)) (by with_reducible repeat constructor) fun x157 hx157 => ?_)))))
     dsimp only [List.cons_append, List.nil_append]
     refine tmv rfl (trl_splitb 3 rfl (fun g158 => ?_) (fun g158 => ?_))
     ·refine trl_not rfl g158 ?_
      refine trl_not rfl g158 ?_
      refine trl_not rfl g158 ?_
      refine trl_not rfl g158 ?_
      refine trl_pv (pv_pick_t rfl g158 rfl) (trl_pv (pv_conv (pv_assign rfl) (congrArg Value.bool (show true = lastE style (cntN (planesF v)) k from by unfold lastE; rw [g158]; rfl))) (trl_nil (tr_keep (ks := [3,10,12,13,15,16,17,18,19]) (.cons rfl (.cons rfl (.cons rfl (.cons rfl (.cons rfl (.cons rfl (.cons rfl (.cons rfl (.cons rfl .nil))))))))) fun base => ?_)))
      refine tr_seq (tr_region (trl_pv (pv_fieldAddr runUnderlying51 rfl sizeOf49 rfl rfl) (trl_val (rv_load isAgg49 rfl (by with_reducible repeat constructor) rfl) ?_)))
      refine tmv rfl (tmv rfl (trl_pv (pv_build (pl := [(0, 1), (1, 1)]) runUnderlying90 zeroValue90 (fun w => by simp [sizeOf3, sizeOf4]) (by dsimp only [cellsL, List.toList_toArray]) rfl rfl) ?_))
      refine trl_eff (ef_buildSlice runUnderlying49 sizeOf90 zeroValue90 rfl rfl rfl rfl rfl (by dsimp only [flatC, cellsL, List.toList_toArray, List.cons_append, List.nil_append, List.append_nil]) fun r169 => ?_)
      refine trl_eff (ef_append runUnderlying49 runUnderlying49 typeInfo90 sizeOf90 zeroValue90 rfl rfl rfl (by with_reducible repeat constructor) (reads_pt (by with_reducible repeat constructor) rfl) rfl (by simp [one?]) (by rw [show Tryz.t90.bytes = 16 from rfl]; omega) fun v170 ho170 => ?_)
      refine trl_pv (pv_fieldAddr runUnderlying51 rfl sizeOf49 rfl rfl) (trl_eff0 (ef_store sizeOf49 rfl rfl (by first | rfl | assumption) (by with_reducible repeat constructor) rfl ?_))
      refine trl_nil ?_
      rw [passC_snoc, show s.ps.length + 1 = k + 1 by rw [hln]]
      refine tr_keep (ks := [3,10,12,13,15,16,17,19]) (.cons rfl (.cons rfl (.cons rfl (.cons rfl (.cons rfl (.cons rfl (.cons rfl (.cons rfl .nil)))))))) fun base => ?_
      refine tr_seq (tr_seq (tr_region (tmv rfl (trl_pv (pv_not rfl) (trl_nil (tr_ifb rfl (fun h8 => ?_) (fun h8 => ?_)))))))
      ·refine tr_exit rfl (tr_region (tmv rfl (trl_pv (pv_addI rfl rfl (by omega) (by omega)) ?_)))
       refine tas rfl (trl_nil ?_)
       have hE : lastE style (cntN (planesF v)) k = false := by simpa using h8
       have hst : (⟨c2, (s.ps ++ [(outC c2, lastE style (cntN (planesF v)) k)]), s.bys, s.first⟩ : Es8) = atE w h band style v (k + 1) := by rw [atE_succ, ← hs]; unfold stepE; rw [hc2, if_pos hE]
       refine tr_again ih2 (k + 1, g2, ⟨c2, (s.ps ++ [(outC c2, lastE style (cntN (planesF v)) k)]), s.bys, s.first⟩, v170, bv) (by first | omega | (dsimp only; omega)) (.cons rfl (.cons rfl (.cons rfl (.cons rfl (.cons rfl (.cons rfl (.cons rfl .nil))))))) (by dsimp only; rw [if_neg (show ¬ (k + 1 = s.first) by omega), hlP]; exact holds_pure ⟨by omega, hst, hg2, ho170, hbv, fun _ => hfit2.raw.symm⟩ (holds_of_picks (by with_reducible repeat constructor)))
      ·refine tr_skip (tr_seq ?_)
       have hE : ¬ lastE style (cntN (planesF v)) k = false := by simpa using h8
       refine tr_region (tmv rfl (tnc rfl (trl_pv (pv_fieldAddr runUnderlying133 rfl sizeOf128 rfl rfl) (trl_val (rv_cd isAgg128 rfl (by with_reducible repeat constructor) (cd_at12 (by assumption))) ?_))))
       refine trl_eff (ef_call rfl rfl call63 (cd_flush hfit2) (by with_reducible repeat constructor) fun x20 hx20 => ?_)
       dsimp only [List.cons_append, List.nil_append]
       refine tas rfl (trl_nil (tr_keep (ks := [3,10,12,13,15,16,17,20]) (.cons rfl (.cons rfl (.cons rfl (.cons rfl (.cons rfl (.cons rfl (.cons rfl (.cons rfl .nil)))))))) fun base => ?_))
       refine tr_seq (tr_seq (tr_region (tmv rfl (tnc rfl (trl_pv (pv_fieldAddr runUnderlying133 rfl sizeOf4 rfl rfl) (trl_val (rv_cb isAgg4 rfl (by with_reducible repeat constructor) ((cell_tail hcx2 1).trans rfl)) ?_))))))
       refine trl_nil ?_
       refine tr_join (α := Value) (fun xv => [(3, .int .i64 style), (10, .pointer (some ⟨r10, 0, none⟩)), (12, g2.p), (13, .pointer (some ⟨r13, 0, none⟩)), (15, .int .i64 (((cntN (planesF v)) : Nat) : Int)), (16, .int .i64 ((s.first : Nat) : Int)), (17, .int .i64 ((k : Nat) : Int)), (20, xv)]) (fun xv => [pure' (one? xv = true), CX g2 c2, Sl 5 1 (flC c2).length xv (u8s (flC c2)), pt r13 51 [.int .i64 (((planesF v) : Nat) : Int), v170, bv], Sl 90 2 (k + 1) v170 (passC (s.ps ++ [(outC c2, lastE style (cntN (planesF v)) k)])), Sl 5 1 s.bys.length bv (u8s s.bys), Sl 3 1 (w * h) vv (i64s v), pt r10 51 [.int .i64 0, .slice none 0 0, .slice none 0 0]]) (fun K9 hK9 => ?_) ?_
       ·refine tr_ifb rfl (fun h9 => ?_) (fun h9 => ?_)
        ·refine tr_region (tmv rfl (tnc rfl (trl_pv (pv_fieldAddr runUnderlying133 rfl sizeOf129 rfl rfl) (trl_val (rv_cb isAgg129 rfl (by with_reducible repeat constructor) ((cell_tail hcx2 3).trans rfl)) ?_))))
         refine trl_eff (ef_call rfl rfl call64 (w_flush (r := g2.rW) (w := c2.rw) (by omega)) (by with_reducible repeat constructor) fun x21 hx21 => ?_)
         dsimp only [List.cons_append, List.nil_append]
         refine tas rfl (trl_nil (tr_keep (ks := [3,10,12,13,15,16,17,20]) (.cons rfl (.cons rfl (.cons rfl (.cons rfl (.cons rfl (.cons rfl (.cons rfl (.cons rfl .nil)))))))) fun base => ?_))
         rw [show cdT g2 = [.bool true, .bool g2.raw, .pointer (some ⟨g2.rE, 0, none⟩), .pointer (some ⟨g2.rW, 0, none⟩), .pointer none, .pointer none] from rfl]
         refine Tr.fold (cx_fold _ _ _) (by with_reducible repeat constructor) ?_
         refine tr_meet hK9 x21 (.cons rfl (.cons rfl (.cons rfl (.cons rfl (.cons rfl (.cons rfl (.cons rfl (.cons rfl .nil)))))))) (by rw [show flC c2 = rawFlush c2.rw from if_pos (by rw [hfit2.raw]; exact h9)]; exact holds_pure hx21 (holds_of_picks (by with_reducible repeat constructor)))
        ·refine tr_skip ?_
         rw [show cdT g2 = [.bool true, .bool g2.raw, .pointer (some ⟨g2.rE, 0, none⟩), .pointer (some ⟨g2.rW, 0, none⟩), .pointer none, .pointer none] from rfl]
         refine Tr.fold (cx_fold _ _ _) (by with_reducible repeat constructor) ?_
         refine tr_meet hK9 x20 (.cons rfl (.cons rfl (.cons rfl (.cons rfl (.cons rfl (.cons rfl (.cons rfl (.cons rfl .nil)))))))) (by rw [show flC c2 = flushB c2.e from if_neg (by rw [hfit2.raw, h9]; decide)]; exact holds_pure hx20 (holds_of_picks (by with_reducible repeat constructor)))
       ·intro xv base
        refine Tr.pure fun hxv => ?_
        have hxl := flC_len c2
        refine tr_seq ?_
        have hsz := H.size
        refine tr_region (trl_pv (pv_fieldAddr runUnderlying51 rfl sizeOf30 rfl rfl) (trl_val (rv_load isAgg30 rfl (by with_reducible repeat constructor) rfl) ?_))
        refine trl_val (rv_len_sl runUnderlying30 rfl (by with_reducible repeat constructor)) ?_
        refine tas rfl (trl_nil (tr_seq (tr_region (trl_pv (pv_fieldAddr runUnderlying51 rfl sizeOf30 rfl rfl) (trl_val (rv_load isAgg30 rfl (by with_reducible repeat constructor) rfl) ?_)))))
        refine tmv rfl (trl_eff (ef_append runUnderlying30 runUnderlying30 typeInfo5 sizeOf5 zeroValue5 rfl rfl rfl (by with_reducible repeat constructor) (reads_sl (by with_reducible repeat constructor)) (by simp) one_u8s (by rw [show Tryz.t5.bytes = 1 from rfl]; omega) fun v194 ho194 => ?_))
        refine trl_pv (pv_fieldAddr runUnderlying51 rfl sizeOf30 rfl rfl) (trl_eff0 (ef_store sizeOf30 rfl rfl (by first | rfl | assumption) (by with_reducible repeat constructor) rfl ?_))
        refine trl_nil ?_
        rw [← u8s_append, show s.bys.length + (flC c2).length = (s.bys ++ flC c2).length from by simp]
        have hbl : (s.bys ++ flC c2).length = s.bys.length + (flC c2).length := by simp
        refine tr_keep (ks := [3,10,12,13,15,16,17,20,21]) (.cons rfl (.cons rfl (.cons rfl (.cons rfl (.cons rfl (.cons rfl (.cons rfl (.cons rfl (.cons rfl .nil))))))))) fun base => ?_
        refine tr_seq (tr_seq ?_)
        have hnn : ∀ i, s.first ≤ i → i < k + 1 → 0 ≤ ((s.ps ++ [(outC c2, lastE style (cntN (planesF v)) k)]).getD i (0, false)).1 := by intro i h1 h2; rw [getD_app (by omega), hln]; split; exact outC_pos hfit2.ok; exact (H.out i h1 (by omega)).1
        refine tr_region (tmv rfl (tas rfl (trl_nil (tr_block (tr_while (α := Nat × List (Int × Bool)) ((s.first, (s.ps ++ [(outC c2, lastE style (cntN (planesF v)) k)]))) (fun z => k + 1 - z.1) (fun z => [(3, .int .i64 style), (10, .pointer (some ⟨r10, 0, none⟩)), (12, g2.p), (13, .pointer (some ⟨r13, 0, none⟩)), (15, .int .i64 (((cntN (planesF v)) : Nat) : Int)), (17, .int .i64 ((k : Nat) : Int)), (20, xv), (21, .int .i64 ((s.bys.length : Nat) : Int)), (22, .int .i64 ((z.1 : Nat) : Int))]) (fun z => [pure' (s.first ≤ z.1 ∧ z.1 ≤ k + 1 ∧ z.2.length = k + 1 ∧ fixN (flC c2) s.bys.length z.1 (k + 1 - z.1) z.2 = (fixN (flC c2) s.bys.length s.first (k + 1 - s.first) (s.ps ++ [(outC c2, lastE style (cntN (planesF v)) k)])) ∧ ∀ i, z.1 ≤ i → z.2.getD i (0, false) = (s.ps ++ [(outC c2, lastE style (cntN (planesF v)) k)]).getD i (0, false)), CX g2 c2, Sl 5 1 (flC c2).length xv (u8s (flC c2)), pt r13 51 [.int .i64 (((planesF v) : Nat) : Int), v170, v194], Sl 90 2 (k + 1) v170 (passC z.2), Sl 5 1 (s.bys ++ flC c2).length v194 (u8s (s.bys ++ flC c2)), Sl 3 1 (w * h) vv (i64s v), pt r10 51 [.int .i64 0, .slice none 0 0, .slice none 0 0]]) (ks := [3,10,12,13,15,17,20,21,22]) (.cons rfl (.cons rfl (.cons rfl (.cons rfl (.cons rfl (.cons rfl (.cons rfl (.cons rfl (.cons rfl .nil))))))))) (holds_pure ⟨Nat.le_refl _, by dsimp only; omega, hlP, rfl, fun _ _ => rfl⟩ (holds_of_picks (by with_reducible repeat constructor))) ?_)))))
        intro ⟨j, q⟩ base ih3
        refine Tr.pure fun ⟨hj1, hj2, hql, hqf, hqs⟩ => ?_
        dsimp only at hj1 hj2 hql hqf hqs ⊢
        refine tr_seq (tr_seq (tr_region (tmv rfl (tmv rfl (trl_pv (pv_leq rfl rfl) (trl_nil (tr_if rfl (fun h10 => ?_) (fun h10 => ?_))))))))
        ·refine tr_skip (tr_seq (tr_block (tr_seq ?_)))
         have hjk : j < k + 1 := by omega
         have hnj : 0 ≤ (q.getD j (0, false)).1 := by rw [hqs j (Nat.le_refl _)]; exact hnn j hj1 hjk
         have hcf := cutF_ok (x := flC c2) hnj
         refine tr_region (trl_pv (pv_fieldAddr runUnderlying51 rfl sizeOf49 rfl rfl) (trl_val (rv_load isAgg49 rfl (by with_reducible repeat constructor) rfl) ?_))
         refine tmv rfl (trl_val (rv_indexAddr_sl runUnderlying49 sizeOf90 rfl rfl (by with_reducible repeat constructor) (by omega) (by omega)) ?_)
         refine trl_pv (pv_fieldAddr runUnderlying90 rfl sizeOf3 rfl rfl) (trl_val (rv_load_sl isAgg3 rfl (by with_reducible repeat constructor) (pcq (by omega))) ?_)
         refine tmv rfl (trl_val (rv_len_sl runUnderlying30 rfl (by with_reducible repeat constructor)) ?_)
         refine trl_pv (pv_minI rfl rfl) (tas rfl (trl_nil (tr_keep (ks := [3,10,12,13,15,17,20,21,22,23]) (.cons rfl (.cons rfl (.cons rfl (.cons rfl (.cons rfl (.cons rfl (.cons rfl (.cons rfl (.cons rfl (.cons rfl .nil)))))))))) fun base => ?_)))
         refine tr_seq (tr_seq (tr_region (tmv rfl (trl_pv (pv_gtr rfl rfl) (tmv rfl (trl_split 2 rfl (fun g213 => ?_) (fun g213 => ?_)))))))
         ·refine trl_pvg rfl (decide_eq_true g213) (pv_move rfl) (trl_pvg rfl (decide_eq_true g213) (pv_move rfl) (trl_pvg rfl (decide_eq_true g213) (pv_conv (pv_subI rfl rfl (by omega) (by omega)) (congrArg (Value.int .i64) (show min (q.getD j (0, false)).1 ((flC c2).length : Int) - 1 = (((min (q.getD j (0, false)).1 ((flC c2).length : Int) - 1).toNat : Nat) : Int) from by omega))) ?_))
          refine trl_valg rfl (decide_eq_true g213) (rv_indexAddr_sl runUnderlying30 sizeOf5 rfl rfl (by with_reducible repeat constructor) (by omega) (by omega)) ?_
          refine trl_valg rfl (decide_eq_true g213) (rv_load_sl isAgg5 rfl (by with_reducible repeat constructor) (idx1 (u8s_getD (by omega)))) ?_
          refine trl_pvg rfl (decide_eq_true g213) (pv_eql rfl rfl) (trl_pv (pv_pick_t rfl (decide_eq_true g213) rfl) (trl_nil (tr_keep (ks := [3,10,12,13,15,17,20,21,22,23,220]) (.cons rfl (.cons rfl (.cons rfl (.cons rfl (.cons rfl (.cons rfl (.cons rfl (.cons rfl (.cons rfl (.cons rfl (.cons rfl .nil))))))))))) fun base => ?_)))
          refine tr_join (α := Unit) (fun _ => [(3, .int .i64 style), (10, .pointer (some ⟨r10, 0, none⟩)), (12, g2.p), (13, .pointer (some ⟨r13, 0, none⟩)), (15, .int .i64 (((cntN (planesF v)) : Nat) : Int)), (17, .int .i64 ((k : Nat) : Int)), (20, xv), (21, .int .i64 ((s.bys.length : Nat) : Int)), (22, .int .i64 ((j : Nat) : Int)), (23, .int .i64 (cutF (flC c2) (q.getD j (0, false)).1))]) (fun _ => [CX g2 c2, Sl 5 1 (flC c2).length xv (u8s (flC c2)), pt r13 51 [.int .i64 (((planesF v) : Nat) : Int), v170, v194], Sl 90 2 (k + 1) v170 (passC q), Sl 5 1 (s.bys ++ flC c2).length v194 (u8s (s.bys ++ flC c2)), Sl 3 1 (w * h) vv (i64s v), pt r10 51 [.int .i64 0, .slice none 0 0, .slice none 0 0]]) (fun K11 hK11 => ?_) ?_
          ·refine tr_if rfl (fun h11 => ?_) (fun h11 => ?_)
           ·refine tr_region (tmv rfl (trl_pv (pv_subI rfl rfl (by omega) (by omega)) ?_))
            refine tas rfl (trl_nil (tr_meet hK11 () (.cons rfl (.cons rfl (.cons rfl (.cons rfl (.cons rfl (.cons rfl (.cons rfl (.cons rfl (.cons rfl (.cons (keep_int rfl (if_pos ⟨by omega, h11⟩).symm) .nil)))))))))) (holds_of_picks (by with_reducible repeat constructor))))
           ·refine tr_skip (tr_meet hK11 () (.cons rfl (.cons rfl (.cons rfl (.cons rfl (.cons rfl (.cons rfl (.cons rfl (.cons rfl (.cons rfl (.cons (keep_int rfl (if_neg (fun hh => h11 hh.2)).symm) .nil)))))))))) (holds_of_picks (by with_reducible repeat constructor)))
          ·intro u base
           refine tr_region (trl_pv (pv_fieldAddr runUnderlying51 rfl sizeOf49 rfl rfl) (trl_val (rv_load isAgg49 rfl (by with_reducible repeat constructor) rfl) ?_))
           refine tmv rfl (tmv rfl (tmv rfl (trl_pv (pv_addI rfl rfl (by omega) (by omega)) ?_)))
           refine trl_val (rv_indexAddr_sl runUnderlying49 sizeOf90 rfl rfl (by with_reducible repeat constructor) (by omega) (by omega)) ?_
           refine trl_pv (pv_fieldAddr runUnderlying90 rfl sizeOf3 rfl rfl) (trl_eff0 (ef_store_sl sizeOf3 rfl rfl (by first | rfl | assumption) (by with_reducible repeat constructor) (show ((j : Nat) : Int).toNat * 2 + 0 < _ by rw [passC_length]; omega) (pcq_set (by omega)) ?_))
           refine trl_nil (tr_keep (ks := [3,10,12,13,15,17,20,21,22]) (.cons rfl (.cons rfl (.cons rfl (.cons rfl (.cons rfl (.cons rfl (.cons rfl (.cons rfl (.cons rfl .nil))))))))) fun base => ?_)
           refine tr_inBlock (tr_region (tmv rfl (trl_pv (pv_addI rfl rfl (by omega) (by omega)) ?_)))
           refine tas rfl (trl_nil (tr_again ih3 (j + 1, q.set j ((s.bys.length : Int) + cutF (flC c2) (q.getD j (0, false)).1, (q.getD j (0, false)).2)) (by first | omega | (dsimp only; omega)) (.cons rfl (.cons rfl (.cons rfl (.cons rfl (.cons rfl (.cons rfl (.cons rfl (.cons rfl (.cons rfl .nil))))))))) (holds_pure ⟨by dsimp only; omega, by dsimp only; omega, by dsimp only; rw [List.length_set]; exact hql, by dsimp only; rw [← hqf, show k + 1 - j = (k + 1 - (j + 1)) + 1 by omega]; rfl, fun i hi => by dsimp only at hi ⊢; rw [getD_put (by omega), if_neg (by omega)]; exact hqs i (by omega)⟩ (holds_of_picks (by with_reducible repeat constructor)))))
         ·refine trl_not rfl (decide_eq_false g213) ?_
          refine trl_not rfl (decide_eq_false g213) ?_
          refine trl_not rfl (decide_eq_false g213) ?_
          refine trl_not rfl (decide_eq_false g213) ?_
          refine trl_not rfl (decide_eq_false g213) ?_
          refine trl_not rfl (decide_eq_false g213) ?_
          refine trl_pv (pv_pick_f rfl (decide_eq_false g213) rfl) (trl_nil (tr_keep (ks := [3,10,12,13,15,17,20,21,22,23,220]) (.cons rfl (.cons rfl (.cons rfl (.cons rfl (.cons rfl (.cons rfl (.cons rfl (.cons rfl (.cons rfl (.cons rfl (.cons rfl .nil))))))))))) fun base => ?_))
          refine tr_join (α := Unit) (fun _ => [(3, .int .i64 style), (10, .pointer (some ⟨r10, 0, none⟩)), (12, g2.p), (13, .pointer (some ⟨r13, 0, none⟩)), (15, .int .i64 (((cntN (planesF v)) : Nat) : Int)), (17, .int .i64 ((k : Nat) : Int)), (20, xv), (21, .int .i64 ((s.bys.length : Nat) : Int)), (22, .int .i64 ((j : Nat) : Int)), (23, .int .i64 (cutF (flC c2) (q.getD j (0, false)).1))]) (fun _ => [CX g2 c2, Sl 5 1 (flC c2).length xv (u8s (flC c2)), pt r13 51 [.int .i64 (((planesF v) : Nat) : Int), v170, v194], Sl 90 2 (k + 1) v170 (passC q), Sl 5 1 (s.bys ++ flC c2).length v194 (u8s (s.bys ++ flC c2)), Sl 3 1 (w * h) vv (i64s v), pt r10 51 [.int .i64 0, .slice none 0 0, .slice none 0 0]]) (fun K11 hK11 => ?_) ?_
          ·refine tr_else rfl rfl ?_
           refine tr_skip (tr_meet hK11 () (.cons rfl (.cons rfl (.cons rfl (.cons rfl (.cons rfl (.cons rfl (.cons rfl (.cons rfl (.cons rfl (.cons (keep_int rfl (if_neg (fun hh => g213 (by omega))).symm) .nil)))))))))) (holds_of_picks (by with_reducible repeat constructor)))
          ·intro u base
           refine tr_region (trl_pv (pv_fieldAddr runUnderlying51 rfl sizeOf49 rfl rfl) (trl_val (rv_load isAgg49 rfl (by with_reducible repeat constructor) rfl) ?_))
           refine tmv rfl (tmv rfl (tmv rfl (trl_pv (pv_addI rfl rfl (by omega) (by omega)) ?_)))
           refine trl_val (rv_indexAddr_sl runUnderlying49 sizeOf90 rfl rfl (by with_reducible repeat constructor) (by omega) (by omega)) ?_
           refine trl_pv (pv_fieldAddr runUnderlying90 rfl sizeOf3 rfl rfl) (trl_eff0 (ef_store_sl sizeOf3 rfl rfl (by first | rfl | assumption) (by with_reducible repeat constructor) (show ((j : Nat) : Int).toNat * 2 + 0 < _ by rw [passC_length]; omega) (pcq_set (by omega)) ?_))
           refine trl_nil (tr_keep (ks := [3,10,12,13,15,17,20,21,22]) (.cons rfl (.cons rfl (.cons rfl (.cons rfl (.cons rfl (.cons rfl (.cons rfl (.cons rfl (.cons rfl .nil))))))))) fun base => ?_)
           refine tr_inBlock (tr_region (tmv rfl (trl_pv (pv_addI rfl rfl (by omega) (by omega)) ?_)))
           refine tas rfl (trl_nil (tr_again ih3 (j + 1, q.set j ((s.bys.length : Int) + cutF (flC c2) (q.getD j (0, false)).1, (q.getD j (0, false)).2)) (by first | omega | (dsimp only; omega)) (.cons rfl (.cons rfl (.cons rfl (.cons rfl (.cons rfl (.cons rfl (.cons rfl (.cons rfl (.cons rfl .nil))))))))) (holds_pure ⟨by dsimp only; omega, by dsimp only; omega, by dsimp only; rw [List.length_set]; exact hql, by dsimp only; rw [← hqf, show k + 1 - j = (k + 1 - (j + 1)) + 1 by omega]; rfl, fun i hi => by dsimp only at hi ⊢; rw [getD_put (by omega), if_neg (by omega)]; exact hqs i (by omega)⟩ (holds_of_picks (by with_reducible repeat constructor)))))
        ·refine tr_exit rfl (tr_seq ?_)
         have hjk : j = k + 1 := by omega
         rw [hjk, Nat.sub_self] at hqf
         have hqe : q = (fixN (flC c2) s.bys.length s.first (k + 1 - s.first) (s.ps ++ [(outC c2, lastE style (cntN (planesF v)) k)])) := hqf
         refine tr_region (trl_pv (pv_fieldAddr runUnderlying51 rfl sizeOf49 rfl rfl) (trl_val (rv_load isAgg49 rfl (by with_reducible repeat constructor) rfl) ?_))
         refine tmv rfl (trl_pv (pv_fieldAddr runUnderlying51 rfl sizeOf30 rfl rfl) (trl_val (rv_load isAgg30 rfl (by with_reducible repeat constructor) rfl) ?_))
         refine trl_val (rv_len_sl runUnderlying30 rfl (by with_reducible repeat constructor)) ?_
         refine trl_val (rv_indexAddr_sl runUnderlying49 sizeOf90 rfl rfl (by with_reducible repeat constructor) (by omega) (by omega)) ?_
         refine trl_pv (pv_fieldAddr runUnderlying90 rfl sizeOf3 rfl rfl) (trl_eff0 (ef_store_sl sizeOf3 rfl rfl (by first | rfl | assumption) (by with_reducible repeat constructor) (show ((k : Nat) : Int).toNat * 2 + 0 < _ by rw [passC_length]; omega) (pcq_set (by omega)) ?_))
         refine trl_nil (tr_keep (ks := [3,10,12,13,15,17]) (.cons rfl (.cons rfl (.cons rfl (.cons rfl (.cons rfl (.cons rfl .nil)))))) fun base => ?_)
         refine tr_region (tmv rfl (trl_pv (pv_addI rfl rfl (by omega) (by omega)) ?_))
         refine tas rfl (trl_nil (tr_inBlock (tr_region (tmv rfl (trl_pv (pv_addI rfl rfl (by omega) (by omega)) ?_)))))
         refine tas rfl (trl_nil ?_)
         have hst : (⟨c2, (fixN (flC c2) s.bys.length s.first (k + 1 - s.first) (s.ps ++ [(outC c2, lastE style (cntN (planesF v)) k)])).set k (((s.bys ++ flC c2).length : Int), ((fixN (flC c2) s.bys.length s.first (k + 1 - s.first) (s.ps ++ [(outC c2, lastE style (cntN (planesF v)) k)])).getD k (0, false)).2), s.bys ++ flC c2, k + 1⟩ : Es8) = atE w h band style v (k + 1) := by rw [atE_succ, ← hs]; unfold stepE; rw [hc2, if_neg hE]
         rw [hqe]
         refine tr_again ih2 (k + 1, g2, ⟨c2, (fixN (flC c2) s.bys.length s.first (k + 1 - s.first) (s.ps ++ [(outC c2, lastE style (cntN (planesF v)) k)])).set k (((s.bys ++ flC c2).length : Int), ((fixN (flC c2) s.bys.length s.first (k + 1 - s.first) (s.ps ++ [(outC c2, lastE style (cntN (planesF v)) k)])).getD k (0, false)).2), s.bys ++ flC c2, k + 1⟩, v170, v194) (by first | omega | (dsimp only; omega)) (.cons rfl (.cons rfl (.cons rfl (.cons rfl (.cons rfl (.cons rfl (.cons rfl .nil))))))) (by dsimp only; rw [if_pos rfl, List.length_set, fixN_length, hlP]; exact holds_pure ⟨by omega, hst, hg2, ho170, ho194, fun hne => absurd rfl hne⟩ (holds_of_picks (by with_reducible repeat constructor)))
     ·refine trl_pvg rfl g158 (pv_move rfl) ?_
      refine trl_pvg rfl g158 (pv_move rfl) ?_
      refine trl_pvg rfl g158 (pv_subI rfl rfl (by omega) (by omega)) ?_
      refine trl_pvg rfl g158 (pv_eql rfl rfl) ?_
      refine trl_pv (pv_pick_f rfl g158 rfl) (trl_pv (pv_conv (pv_assign rfl) (congrArg Value.bool (show decide ((k : Int) = (cntN (planesF v) : Int) - 1) = lastE style (cntN (planesF v)) k from by unfold lastE; rw [g158]; rfl))) (trl_nil (tr_keep (ks := [3,10,12,13,15,16,17,18,19]) (.cons rfl (.cons rfl (.cons rfl (.cons rfl (.cons rfl (.cons rfl (.cons rfl (.cons rfl (.cons rfl .nil))))))))) fun base => ?_)))
      refine tr_seq (tr_region (trl_pv (pv_fieldAddr runUnderlying51 rfl sizeOf49 rfl rfl) (trl_val (rv_load isAgg49 rfl (by with_reducible repeat constructor) rfl) ?_)))
      refine tmv rfl (tmv rfl (trl_pv (pv_build (pl := [(0, 1), (1, 1)]) runUnderlying90 zeroValue90 (fun w => by simp [sizeOf3, sizeOf4]) (by dsimp only [cellsL, List.toList_toArray]) rfl rfl) ?_))
      refine trl_eff (ef_buildSlice runUnderlying49 sizeOf90 zeroValue90 rfl rfl rfl rfl rfl (by dsimp only [flatC, cellsL, List.toList_toArray, List.cons_append, List.nil_append, List.append_nil]) fun r169 => ?_)
      refine trl_eff (ef_append runUnderlying49 runUnderlying49 typeInfo90 sizeOf90 zeroValue90 rfl rfl rfl (by with_reducible repeat constructor) (reads_pt (by with_reducible repeat constructor) rfl) rfl (by simp [one?]) (by rw [show Tryz.t90.bytes = 16 from rfl]; omega) fun v170 ho170 => ?_)
      refine trl_pv (pv_fieldAddr runUnderlying51 rfl sizeOf49 rfl rfl) (trl_eff0 (ef_store sizeOf49 rfl rfl (by first | rfl | assumption) (by with_reducible repeat constructor) rfl ?_))
      refine trl_nil ?_
      rw [passC_snoc, show s.ps.length + 1 = k + 1 by rw [hln]]
      refine tr_keep (ks := [3,10,12,13,15,16,17,19]) (.cons rfl (.cons rfl (.cons rfl (.cons rfl (.cons rfl (.cons rfl (.cons rfl (.cons rfl .nil)))))))) fun base => ?_
      refine tr_seq (tr_seq (tr_region (tmv rfl (trl_pv (pv_not rfl) (trl_nil (tr_ifb rfl (fun h8 => ?_) (fun h8 => ?_)))))))
      ·refine tr_exit rfl (tr_region (tmv rfl (trl_pv (pv_addI rfl rfl (by omega) (by omega)) ?_)))
       refine tas rfl (trl_nil ?_)
       have hE : lastE style (cntN (planesF v)) k = false := by simpa using h8
       have hst : (⟨c2, (s.ps ++ [(outC c2, lastE style (cntN (planesF v)) k)]), s.bys, s.first⟩ : Es8) = atE w h band style v (k + 1) := by rw [atE_succ, ← hs]; unfold stepE; rw [hc2, if_pos hE]
       refine tr_again ih2 (k + 1, g2, ⟨c2, (s.ps ++ [(outC c2, lastE style (cntN (planesF v)) k)]), s.bys, s.first⟩, v170, bv) (by first | omega | (dsimp only; omega)) (.cons rfl (.cons rfl (.cons rfl (.cons rfl (.cons rfl (.cons rfl (.cons rfl .nil))))))) (by dsimp only; rw [if_neg (show ¬ (k + 1 = s.first) by omega), hlP]; exact holds_pure ⟨by omega, hst, hg2, ho170, hbv, fun _ => hfit2.raw.symm⟩ (holds_of_picks (by with_reducible repeat constructor)))
      ·refine tr_skip (tr_seq ?_)
       have hE : ¬ lastE style (cntN (planesF v)) k = false := by simpa using h8
       refine tr_region (tmv rfl (tnc rfl (trl_pv (pv_fieldAddr runUnderlying133 rfl sizeOf128 rfl rfl) (trl_val (rv_cd isAgg128 rfl (by with_reducible repeat constructor) (cd_at12 (by assumption))) ?_))))
       refine trl_eff (ef_call rfl rfl call63 (cd_flush hfit2) (by with_reducible repeat constructor) fun x20 hx20 => ?_)
       dsimp only [List.cons_append, List.nil_append]
       refine tas rfl (trl_nil (tr_keep (ks := [3,10,12,13,15,16,17,20]) (.cons rfl (.cons rfl (.cons rfl (.cons rfl (.cons rfl (.cons rfl (.cons rfl (.cons rfl .nil)))))))) fun base => ?_))
       refine tr_seq (tr_seq (tr_region (tmv rfl (tnc rfl (trl_pv (pv_fieldAddr runUnderlying133 rfl sizeOf4 rfl rfl) (trl_val (rv_cb isAgg4 rfl (by with_reducible repeat constructor) ((cell_tail hcx2 1).trans rfl)) ?_))))))
       refine trl_nil ?_
       refine tr_join (α := Value) (fun xv => [(3, .int .i64 style), (10, .pointer (some ⟨r10, 0, none⟩)), (12, g2.p), (13, .pointer (some ⟨r13, 0, none⟩)), (15, .int .i64 (((cntN (planesF v)) : Nat) : Int)), (16, .int .i64 ((s.first : Nat) : Int)), (17, .int .i64 ((k : Nat) : Int)), (20, xv)]) (fun xv => [pure' (one? xv = true), CX g2 c2, Sl 5 1 (flC c2).length xv (u8s (flC c2)), pt r13 51 [.int .i64 (((planesF v) : Nat) : Int), v170, bv], Sl 90 2 (k + 1) v170 (passC (s.ps ++ [(outC c2, lastE style (cntN (planesF v)) k)])), Sl 5 1 s.bys.length bv (u8s s.bys), Sl 3 1 (w * h) vv (i64s v), pt r10 51 [.int .i64 0, .slice none 0 0, .slice none 0 0]]) (fun K9 hK9 => ?_) ?_
       ·refine tr_ifb rfl (fun h9 => ?_) (fun h9 => ?_)
        ·refine tr_region (tmv rfl (tnc rfl (trl_pv (pv_fieldAddr runUnderlying133 rfl sizeOf129 rfl rfl) (trl_val (rv_cb isAgg129 rfl (by with_reducible repeat constructor) ((cell_tail hcx2 3).trans rfl)) ?_))))
         refine trl_eff (ef_call rfl rfl call64 (w_flush (r := g2.rW) (w := c2.rw) (by omega)) (by with_reducible repeat constructor) fun x21 hx21 => ?_)
         dsimp only [List.cons_append, List.nil_append]
         refine tas rfl (trl_nil (tr_keep (ks := [3,10,12,13,15,16,17,20]) (.cons rfl (.cons rfl (.cons rfl (.cons rfl (.cons rfl (.cons rfl (.cons rfl (.cons rfl .nil)))))))) fun base => ?_))
         rw [show cdT g2 = [.bool true, .bool g2.raw, .pointer (some ⟨g2.rE, 0, none⟩), .pointer (some ⟨g2.rW, 0, none⟩), .pointer none, .pointer none] from rfl]
         refine Tr.fold (cx_fold _ _ _) (by with_reducible repeat constructor) ?_
         refine tr_meet hK9 x21 (.cons rfl (.cons rfl (.cons rfl (.cons rfl (.cons rfl (.cons rfl (.cons rfl (.cons rfl .nil)))))))) (by rw [show flC c2 = rawFlush c2.rw from if_pos (by rw [hfit2.raw]; exact h9)]; exact holds_pure hx21 (holds_of_picks (by with_reducible repeat constructor)))
        ·refine tr_skip ?_
         rw [show cdT g2 = [.bool true, .bool g2.raw, .pointer (some ⟨g2.rE, 0, none⟩), .pointer (some ⟨g2.rW, 0, none⟩), .pointer none, .pointer none] from rfl]
         refine Tr.fold (cx_fold _ _ _) (by with_reducible repeat constructor) ?_
         refine tr_meet hK9 x20 (.cons rfl (.cons rfl (.cons rfl (.cons rfl (.cons rfl (.cons rfl (.cons rfl (.cons rfl .nil)))))))) (by rw [show flC c2 = flushB c2.e from if_neg (by rw [hfit2.raw, h9]; decide)]; exact holds_pure hx20 (holds_of_picks (by with_reducible repeat constructor)))
       ·intro xv base
        refine Tr.pure fun hxv => ?_
        have hxl := flC_len c2
        refine tr_seq ?_
        have hsz := H.size
        refine tr_region (trl_pv (pv_fieldAddr runUnderlying51 rfl sizeOf30 rfl rfl) (trl_val (rv_load isAgg30 rfl (by with_reducible repeat constructor) rfl) ?_))
        refine trl_val (rv_len_sl runUnderlying30 rfl (by with_reducible repeat constructor)) ?_
        refine tas rfl (trl_nil (tr_seq (tr_region (trl_pv (pv_fieldAddr runUnderlying51 rfl sizeOf30 rfl rfl) (trl_val (rv_load isAgg30 rfl (by with_reducible repeat constructor) rfl) ?_)))))
        refine tmv rfl (trl_eff (ef_append runUnderlying30 runUnderlying30 typeInfo5 sizeOf5 zeroValue5 rfl rfl rfl (by with_reducible repeat constructor) (reads_sl (by with_reducible repeat constructor)) (by simp) one_u8s (by rw [show Tryz.t5.bytes = 1 from rfl]; omega) fun v194 ho194 => ?_))
        refine trl_pv (pv_fieldAddr runUnderlying51 rfl sizeOf30 rfl rfl) (trl_eff0 (ef_store sizeOf30 rfl rfl (by first | rfl | assumption) (by with_reducible repeat constructor) rfl ?_))
        refine trl_nil ?_
        rw [← u8s_append, show s.bys.length + (flC c2).length = (s.bys ++ flC c2).length from by simp]
        have hbl : (s.bys ++ flC c2).length = s.bys.length + (flC c2).length := by simp
        refine tr_keep (ks := [3,10,12,13,15,16,17,20,21]) (.cons rfl (.cons rfl (.cons rfl (.cons rfl (.cons rfl (.cons rfl (.cons rfl (.cons rfl (.cons rfl .nil))))))))) fun base => ?_
        refine tr_seq (tr_seq ?_)
        have hnn : ∀ i, s.first ≤ i → i < k + 1 → 0 ≤ ((s.ps ++ [(outC c2, lastE style (cntN (planesF v)) k)]).getD i (0, false)).1 := by intro i h1 h2; rw [getD_app (by omega), hln]; split; exact outC_pos hfit2.ok; exact (H.out i h1 (by omega)).1
        refine tr_region (tmv rfl (tas rfl (trl_nil (tr_block (tr_while (α := Nat × List (Int × Bool)) ((s.first, (s.ps ++ [(outC c2, lastE style (cntN (planesF v)) k)]))) (fun z => k + 1 - z.1) (fun z => [(3, .int .i64 style), (10, .pointer (some ⟨r10, 0, none⟩)), (12, g2.p), (13, .pointer (some ⟨r13, 0, none⟩)), (15, .int .i64 (((cntN (planesF v)) : Nat) : Int)), (17, .int .i64 ((k : Nat) : Int)), (20, xv), (21, .int .i64 ((s.bys.length : Nat) : Int)), (22, .int .i64 ((z.1 : Nat) : Int))]) (fun z => [pure' (s.first ≤ z.1 ∧ z.1 ≤ k + 1 ∧ z.2.length = k + 1 ∧ fixN (flC c2) s.bys.length z.1 (k + 1 - z.1) z.2 = (fixN (flC c2) s.bys.length s.first (k + 1 - s.first) (s.ps ++ [(outC c2, lastE style (cntN (planesF v)) k)])) ∧ ∀ i, z.1 ≤ i → z.2.getD i (0, false) = (s.ps ++ [(outC c2, lastE style (cntN (planesF v)) k)]).getD i (0, false)), CX g2 c2, Sl 5 1 (flC c2).length xv (u8s (flC c2)), pt r13 51 [.int .i64 (((planesF v) : Nat) : Int), v170, v194], Sl 90 2 (k + 1) v170 (passC z.2), Sl 5 1 (s.bys ++ flC c2).length v194 (u8s (s.bys ++ flC c2)), Sl 3 1 (w * h) vv (i64s v), pt r10 51 [.int .i64 0, .slice none 0 0, .slice none 0 0]]) (ks := [3,10,12,13,15,17,20,21,22]) (.cons rfl (.cons rfl (.cons rfl (.cons rfl (.cons rfl (.cons rfl (.cons rfl (.cons rfl (.cons rfl .nil))))))))) (holds_pure ⟨Nat.le_refl _, by dsimp only; omega, hlP, rfl, fun _ _ => rfl⟩ (holds_of_picks (by with_reducible repeat constructor))) ?_)))))
        intro ⟨j, q⟩ base ih3
        refine Tr.pure fun ⟨hj1, hj2, hql, hqf, hqs⟩ => ?_
        dsimp only at hj1 hj2 hql hqf hqs ⊢
        refine tr_seq (tr_seq (tr_region (tmv rfl (tmv rfl (trl_pv (pv_leq rfl rfl) (trl_nil (tr_if rfl (fun h10 => ?_) (fun h10 => ?_))))))))
        ·refine tr_skip (tr_seq (tr_block (tr_seq ?_)))
         have hjk : j < k + 1 := by omega
         have hnj : 0 ≤ (q.getD j (0, false)).1 := by rw [hqs j (Nat.le_refl _)]; exact hnn j hj1 hjk
         have hcf := cutF_ok (x := flC c2) hnj
         refine tr_region (trl_pv (pv_fieldAddr runUnderlying51 rfl sizeOf49 rfl rfl) (trl_val (rv_load isAgg49 rfl (by with_reducible repeat constructor) rfl) ?_))
         refine tmv rfl (trl_val (rv_indexAddr_sl runUnderlying49 sizeOf90 rfl rfl (by with_reducible repeat constructor) (by omega) (by omega)) ?_)
         refine trl_pv (pv_fieldAddr runUnderlying90 rfl sizeOf3 rfl rfl) (trl_val (rv_load_sl isAgg3 rfl (by with_reducible repeat constructor) (pcq (by omega))) ?_)
         refine tmv rfl (trl_val (rv_len_sl runUnderlying30 rfl (by with_reducible repeat constructor)) ?_)
         refine trl_pv (pv_minI rfl rfl) (tas rfl (trl_nil (tr_keep (ks := [3,10,12,13,15,17,20,21,22,23]) (.cons rfl (.cons rfl (.cons rfl (.cons rfl (.cons rfl (.cons rfl (.cons rfl (.cons rfl (.cons rfl (.cons rfl .nil)))))))))) fun base => ?_)))
         refine tr_seq (tr_seq (tr_region (tmv rfl (trl_pv (pv_gtr rfl rfl) (tmv rfl (trl_split 2 rfl (fun g213 => ?_) (fun g213 => ?_)))))))
         ·refine trl_pvg rfl (decide_eq_true g213) (pv_move rfl) (trl_pvg rfl (decide_eq_true g213) (pv_move rfl) (trl_pvg rfl (decide_eq_true g213) (pv_conv (pv_subI rfl rfl (by omega) (by omega)) (congrArg (Value.int .i64) (show min (q.getD j (0, false)).1 ((flC c2).length : Int) - 1 = (((min (q.getD j (0, false)).1 ((flC c2).length : Int) - 1).toNat : Nat) : Int) from by omega))) ?_))
          refine trl_valg rfl (decide_eq_true g213) (rv_indexAddr_sl runUnderlying30 sizeOf5 rfl rfl (by with_reducible repeat constructor) (by omega) (by omega)) ?_
          refine trl_valg rfl (decide_eq_true g213) (rv_load_sl isAgg5 rfl (by with_reducible repeat constructor) (idx1 (u8s_getD (by omega)))) ?_
          refine trl_pvg rfl (decide_eq_true g213) (pv_eql rfl rfl) (trl_pv (pv_pick_t rfl (decide_eq_true g213) rfl) (trl_nil (tr_keep (ks := [3,10,12,13,15,17,20,21,22,23,220]) (.cons rfl (.cons rfl (.cons rfl (.cons rfl (.cons rfl (.cons rfl (.cons rfl (.cons rfl (.cons rfl (.cons rfl (.cons rfl .nil))))))))))) fun base => ?_)))
          refine tr_join (α := Unit) (fun _ => [(3, .int .i64 style), (10, .pointer (some ⟨r10, 0, none⟩)), (12, g2.p), (13, .pointer (some ⟨r13, 0, none⟩)), (15, .int .i64 (((cntN (planesF v)) : Nat) : Int)), (17, .int .i64 ((k : Nat) : Int)), (20, xv), (21, .int .i64 ((s.bys.length : Nat) : Int)), (22, .int .i64 ((j : Nat) : Int)), (23, .int .i64 (cutF (flC c2) (q.getD j (0, false)).1))]) (fun _ => [CX g2 c2, Sl 5 1 (flC c2).length xv (u8s (flC c2)), pt r13 51 [.int .i64 (((planesF v) : Nat) : Int), v170, v194], Sl 90 2 (k + 1) v170 (passC q), Sl 5 1 (s.bys ++ flC c2).length v194 (u8s (s.bys ++ flC c2)), Sl 3 1 (w * h) vv (i64s v), pt r10 51 [.int .i64 0, .slice none 0 0, .slice none 0 0]]) (fun K11 hK11 => ?_) ?_
          ·refine tr_if rfl (fun h11 => ?_) (fun h11 => ?_)
           ·refine tr_region (tmv rfl (trl_pv (pv_subI rfl rfl (by omega) (by omega)) ?_))
            refine tas rfl (trl_nil (tr_meet hK11 () (.cons rfl (.cons rfl (.cons rfl (.cons rfl (.cons rfl (.cons rfl (.cons rfl (.cons rfl (.cons rfl (.cons (keep_int rfl (if_pos ⟨by omega, h11⟩).symm) .nil)))))))))) (holds_of_picks (by with_reducible repeat constructor))))
           ·refine tr_skip (tr_meet hK11 () (.cons rfl (.cons rfl (.cons rfl (.cons rfl (.cons rfl (.cons rfl (.cons rfl (.cons rfl (.cons rfl (.cons (keep_int rfl (if_neg (fun hh => h11 hh.2)).symm) .nil)))))))))) (holds_of_picks (by with_reducible repeat constructor)))
          ·intro u base
           refine tr_region (trl_pv (pv_fieldAddr runUnderlying51 rfl sizeOf49 rfl rfl) (trl_val (rv_load isAgg49 rfl (by with_reducible repeat constructor) rfl) ?_))
           refine tmv rfl (tmv rfl (tmv rfl (trl_pv (pv_addI rfl rfl (by omega) (by omega)) ?_)))
           refine trl_val (rv_indexAddr_sl runUnderlying49 sizeOf90 rfl rfl (by with_reducible repeat constructor) (by omega) (by omega)) ?_
           refine trl_pv (pv_fieldAddr runUnderlying90 rfl sizeOf3 rfl rfl) (trl_eff0 (ef_store_sl sizeOf3 rfl rfl (by first | rfl | assumption) (by with_reducible repeat constructor) (show ((j : Nat) : Int).toNat * 2 + 0 < _ by rw [passC_length]; omega) (pcq_set (by omega)) ?_))
           refine trl_nil (tr_keep (ks := [3,10,12,13,15,17,20,21,22]) (.cons rfl (.cons rfl (.cons rfl (.cons rfl (.cons rfl (.cons rfl (.cons rfl (.cons rfl (.cons rfl .nil))))))))) fun base => ?_)
           refine tr_inBlock (tr_region (tmv rfl (trl_pv (pv_addI rfl rfl (by omega) (by omega)) ?_)))
           refine tas rfl (trl_nil (tr_again ih3 (j + 1, q.set j ((s.bys.length : Int) + cutF (flC c2) (q.getD j (0, false)).1, (q.getD j (0, false)).2)) (by first | omega | (dsimp only; omega)) (.cons rfl (.cons rfl (.cons rfl (.cons rfl (.cons rfl (.cons rfl (.cons rfl (.cons rfl (.cons rfl .nil))))))))) (holds_pure ⟨by dsimp only; omega, by dsimp only; omega, by dsimp only; rw [List.length_set]; exact hql, by dsimp only; rw [← hqf, show k + 1 - j = (k + 1 - (j + 1)) + 1 by omega]; rfl, fun i hi => by dsimp only at hi ⊢; rw [getD_put (by omega), if_neg (by omega)]; exact hqs i (by omega)⟩ (holds_of_picks (by with_reducible repeat constructor)))))
         ·refine trl_not rfl (decide_eq_false g213) ?_
          refine trl_not rfl (decide_eq_false g213) ?_
          refine trl_not rfl (decide_eq_false g213) ?_
          refine trl_not rfl (decide_eq_false g213) ?_
          refine trl_not rfl (decide_eq_false g213) ?_
          refine trl_not rfl (decide_eq_false g213) ?_
          refine trl_pv (pv_pick_f rfl (decide_eq_false g213) rfl) (trl_nil (tr_keep (ks := [3,10,12,13,15,17,20,21,22,23,220]) (.cons rfl (.cons rfl (.cons rfl (.cons rfl (.cons rfl (.cons rfl (.cons rfl (.cons rfl (.cons rfl (.cons rfl (.cons rfl .nil))))))))))) fun base => ?_))
          refine tr_join (α := Unit) (fun _ => [(3, .int .i64 style), (10, .pointer (some ⟨r10, 0, none⟩)), (12, g2.p), (13, .pointer (some ⟨r13, 0, none⟩)), (15, .int .i64 (((cntN (planesF v)) : Nat) : Int)), (17, .int .i64 ((k : Nat) : Int)), (20, xv), (21, .int .i64 ((s.bys.length : Nat) : Int)), (22, .int .i64 ((j : Nat) : Int)), (23, .int .i64 (cutF (flC c2) (q.getD j (0, false)).1))]) (fun _ => [CX g2 c2, Sl 5 1 (flC c2).length xv (u8s (flC c2)), pt r13 51 [.int .i64 (((planesF v) : Nat) : Int), v170, v194], Sl 90 2 (k + 1) v170 (passC q), Sl 5 1 (s.bys ++ flC c2).length v194 (u8s (s.bys ++ flC c2)), Sl 3 1 (w * h) vv (i64s v), pt r10 51 [.int .i64 0, .slice none 0 0, .slice none 0 0]]) (fun K11 hK11 => ?_) ?_
          ·refine tr_else rfl rfl ?_
           refine tr_skip (tr_meet hK11 () (.cons rfl (.cons rfl (.cons rfl (.cons rfl (.cons rfl (.cons rfl (.cons rfl (.cons rfl (.cons rfl (.cons (keep_int rfl (if_neg (fun hh => g213 (by omega))).symm) .nil)))))))))) (holds_of_picks (by with_reducible repeat constructor)))
          ·intro u base
           refine tr_region (trl_pv (pv_fieldAddr runUnderlying51 rfl sizeOf49 rfl rfl) (trl_val (rv_load isAgg49 rfl (by with_reducible repeat constructor) rfl) ?_))
           refine tmv rfl (tmv rfl (tmv rfl (trl_pv (pv_addI rfl rfl (by omega) (by omega)) ?_)))
           refine trl_val (rv_indexAddr_sl runUnderlying49 sizeOf90 rfl rfl (by with_reducible repeat constructor) (by omega) (by omega)) ?_
           refine trl_pv (pv_fieldAddr runUnderlying90 rfl sizeOf3 rfl rfl) (trl_eff0 (ef_store_sl sizeOf3 rfl rfl (by first | rfl | assumption) (by with_reducible repeat constructor) (show ((j : Nat) : Int).toNat * 2 + 0 < _ by rw [passC_length]; omega) (pcq_set (by omega)) ?_))
           refine trl_nil (tr_keep (ks := [3,10,12,13,15,17,20,21,22]) (.cons rfl (.cons rfl (.cons rfl (.cons rfl (.cons rfl (.cons rfl (.cons rfl (.cons rfl (.cons rfl .nil))))))))) fun base => ?_)
           refine tr_inBlock (tr_region (tmv rfl (trl_pv (pv_addI rfl rfl (by omega) (by omega)) ?_)))
           refine tas rfl (trl_nil (tr_again ih3 (j + 1, q.set j ((s.bys.length : Int) + cutF (flC c2) (q.getD j (0, false)).1, (q.getD j (0, false)).2)) (by first | omega | (dsimp only; omega)) (.cons rfl (.cons rfl (.cons rfl (.cons rfl (.cons rfl (.cons rfl (.cons rfl (.cons rfl (.cons rfl .nil))))))))) (holds_pure ⟨by dsimp only; omega, by dsimp only; omega, by dsimp only; rw [List.length_set]; exact hql, by dsimp only; rw [← hqf, show k + 1 - j = (k + 1 - (j + 1)) + 1 by omega]; rfl, fun i hi => by dsimp only at hi ⊢; rw [getD_put (by omega), if_neg (by omega)]; exact hqs i (by omega)⟩ (holds_of_picks (by with_reducible repeat constructor)))))
        ·refine tr_exit rfl (tr_seq ?_)
         have hjk : j = k + 1 := by omega
         rw [hjk, Nat.sub_self] at hqf
         have hqe : q = (fixN (flC c2) s.bys.length s.first (k + 1 - s.first) (s.ps ++ [(outC c2, lastE style (cntN (planesF v)) k)])) := hqf
         refine tr_region (trl_pv (pv_fieldAddr runUnderlying51 rfl sizeOf49 rfl rfl) (trl_val (rv_load isAgg49 rfl (by with_reducible repeat constructor) rfl) ?_))
         refine tmv rfl (trl_pv (pv_fieldAddr runUnderlying51 rfl sizeOf30 rfl rfl) (trl_val (rv_load isAgg30 rfl (by with_reducible repeat constructor) rfl) ?_))
         refine trl_val (rv_len_sl runUnderlying30 rfl (by with_reducible repeat constructor)) ?_
         refine trl_val (rv_indexAddr_sl runUnderlying49 sizeOf90 rfl rfl (by with_reducible repeat constructor) (by omega) (by omega)) ?_
         refine trl_pv (pv_fieldAddr runUnderlying90 rfl sizeOf3 rfl rfl) (trl_eff0 (ef_store_sl sizeOf3 rfl rfl (by first | rfl | assumption) (by with_reducible repeat constructor) (show ((k : Nat) : Int).toNat * 2 + 0 < _ by rw [passC_length]; omega) (pcq_set (by omega)) ?_))
         refine trl_nil (tr_keep (ks := [3,10,12,13,15,17]) (.cons rfl (.cons rfl (.cons rfl (.cons rfl (.cons rfl (.cons rfl .nil)))))) fun base => ?_)
         refine tr_region (tmv rfl (trl_pv (pv_addI rfl rfl (by omega) (by omega)) ?_))
         refine tas rfl (trl_nil (tr_inBlock (tr_region (tmv rfl (trl_pv (pv_addI rfl rfl (by omega) (by omega)) ?_)))))
         refine tas rfl (trl_nil ?_)
         have hst : (⟨c2, (fixN (flC c2) s.bys.length s.first (k + 1 - s.first) (s.ps ++ [(outC c2, lastE style (cntN (planesF v)) k)])).set k (((s.bys ++ flC c2).length : Int), ((fixN (flC c2) s.bys.length s.first (k + 1 - s.first) (s.ps ++ [(outC c2, lastE style (cntN (planesF v)) k)])).getD k (0, false)).2), s.bys ++ flC c2, k + 1⟩ : Es8) = atE w h band style v (k + 1) := by rw [atE_succ, ← hs]; unfold stepE; rw [hc2, if_neg hE]
         rw [hqe]
         refine tr_again ih2 (k + 1, g2, ⟨c2, (fixN (flC c2) s.bys.length s.first (k + 1 - s.first) (s.ps ++ [(outC c2, lastE style (cntN (planesF v)) k)])).set k (((s.bys ++ flC c2).length : Int), ((fixN (flC c2) s.bys.length s.first (k + 1 - s.first) (s.ps ++ [(outC c2, lastE style (cntN (planesF v)) k)])).getD k (0, false)).2), s.bys ++ flC c2, k + 1⟩, v170, v194) (by first | omega | (dsimp only; omega)) (.cons rfl (.cons rfl (.cons rfl (.cons rfl (.cons rfl (.cons rfl (.cons rfl .nil))))))) (by dsimp only; rw [if_pos rfl, List.length_set, fixN_length, hlP]; exact holds_pure ⟨by omega, hst, hg2, ho170, ho194, fun hne => absurd rfl hne⟩ (holds_of_picks (by with_reducible repeat constructor)))
  ·refine tr_exit rfl (tr_seq ?_)
   obtain rfl : k = cntN (planesF v) := by omega
   refine tr_region (trl_val (rv_load_agg isAgg51 sizeOf51 rfl (by with_reducible repeat constructor) rfl) ?_)
   refine trl_eff0 (ef_store_agg sizeOf51 rfl rfl (by simp only [List.all_cons, List.all_nil, hpv, hbv, one_int]; rfl) (by with_reducible repeat constructor) rfl ?_)
   refine tas rfl (trl_nil (tr_keep (ks := [10,11]) (.cons rfl (.cons rfl .nil)) fun base => ?_))
   refine tr_ret func17 rfl .nil (by kernel_rfl) (.cell rfl (loadVar_agg isAgg51 sizeOf51 (by with_reducible repeat constructor) rfl) (.tmp rfl .nil)) (pv, bv) rfl ⟨hpv, hbv⟩ (by unfold codeF; dsimp only; rw [← hs]; exact holds_of_picks (by with_reducible repeat constructor))
end Go.Proofs
