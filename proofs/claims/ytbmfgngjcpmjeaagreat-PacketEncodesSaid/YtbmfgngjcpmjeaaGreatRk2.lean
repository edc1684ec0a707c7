/- Contracts of functions that the law reaches, in every memory (part Rk2). -/
import Derived.Test.YtbmfgngjcpmjeaaGreatRk
set_option linter.unusedVariables false
set_option linter.unusedSimpArgs false
set_option maxRecDepth 10000
namespace Go.Proofs
open Go.Eng Tryz
theorem rt_new_rg {r w h : Nat} (hw : w ≤ 30) (hh : h ≤ 30) : Fold [RT r (tshape w h) (List.replicate (total (tshape w h)) ⟨0, 0, false⟩) false] (RG r (tshape w h) (List.replicate (total (tshape w h)) ⟨0, 0, false⟩)) := by
  intro F w0 N hw0
  have hf := new_first hw hh
  rw [hf]
  have hl := leaves_new hw hh
  have hnl : (noughts (w * h)).length = leavesOf (tshape w h) := by rw [hl]; simp [noughts]
  have hle := leaves_le (tshape w h)
  refine rg_rs F w0 N (exs_fold (A := fun x : List Int × Bool => [RT r (tshape w h) (mk0 (noughts (w * h) ++ x.1)) x.2]) (noughts (total (tshape w h) - w * h), false) ⟨hnl, by simp [noughts]; omega, by intro y hy; simp [noughts] at hy; simp [hy.2, big], fun h => by simp at h⟩ F w0 N ?_)
  have e : noughts (w * h) ++ noughts (total (tshape w h) - w * h) = noughts (total (tshape w h)) := by
    unfold noughts
    rw [List.replicate_append_replicate]
    congr 1; omega
  dsimp only
  rw [e, mk0_noughts]
  exact hw0
theorem rb_full {g : Gd} {bd : Bd} {count : Nat} (hB : BdOk bd) (h : bd.ss ≠ [] → bd.set = true) : Fold [RB g bd] (RB g (plantF count bd)) := by
  intro F w N hw
  by_cases hn : bd.ss = []
  · obtain ⟨e1, e2⟩ := plant_empty (count := count) hB hn
    obtain ⟨st, ⟨hg, _⟩, h2⟩ := rb_open F w N hw
    refine exs_fold st ⟨by rw [plantF_ss]; exact hg, fun hne => absurd hn (by rw [plantF_ss] at hne; exact hne)⟩ F w N ?_
    rw [e1, e2, plantF_ss, plantF_sh, plantF_planes]
    exact h2
  · rw [show plantF count bd = bd from if_pos (h hn)]
    exact hw
theorem r_newband {w h : Nat} {planes : Int} (hw : w ≤ 30) (hh : h ≤ 30) : Spec Tryz.prog 16 [.int .i64 (w : Nat), .int .i64 (h : Nat), .int .i64 planes] []
    (fun g : Gd => ⟨.pointer (some ⟨g.r, 0, none⟩), True, [RB g (newBd planes w h)]⟩) := by
 refine spec_of_tr func16 rfl ntmps16 (by kernel_rfl) ?_
 have hm : w * h ≤ 30 * 30 := Nat.mul_le_mul hw hh
 refine tr_seq (tr_region (tas rfl (trl_nil (tr_seq (tr_region (tmv rfl (tmv rfl (tmv rfl (trl_eff (ef_call rfl rfl call51 (rtree_new (w := w) (h := h) (by omega) (by omega)) (by with_reducible repeat constructor) fun rF hx12 => ?_))))))))))
 dsimp only [List.cons_append, List.nil_append]
 refine tmv rfl (tmv rfl (trl_eff (ef_call rfl rfl call51 (rtree_new (w := w) (h := h) (by omega) (by omega)) (by with_reducible repeat constructor) fun rZ hx15 => ?_)))
 dsimp only [List.cons_append, List.nil_append]
 refine trl_pv (pv_build (pl := [(0, 1), (1, 1), (2, 1), (3, 1), (4, 1)]) runUnderlying83 zeroValue83 (fun w => by simp [sizeOf3, sizeOf4, sizeOf80, sizeOf81]) (by dsimp only [cellsL, List.toList_toArray]) rfl rfl) ?_
 refine trl_eff (ef_box rfl (by dsimp only [cellsL, List.toList_toArray]) fun r17 => ?_)
 refine tas rfl (trl_nil (tr_keep (ks := [0,1,7]) (.cons rfl (.cons rfl (.cons rfl .nil))) fun base => ?_))
 refine tr_seq (tr_seq (tr_region (tas rfl (trl_nil ?_))))
 refine tr_empty 85 5 none ?_
 refine Tr.fold (rt_new_rg (r := rF) hw hh) (by with_reducible repeat constructor) ?_
 refine Tr.fold (rt_new_rg (r := rZ) hw hh) (by with_reducible repeat constructor) ?_
 refine tr_block (tr_while (α := Nat × Value) ((0, .slice none 0 0)) (fun x => w * h - x.1) (fun x => [(0, .int .i64 (w : Nat)), (1, .int .i64 (h : Nat)), (7, .pointer (some ⟨r17, 0, none⟩)), (8, .int .i64 (x.1 : Nat))]) (fun x => [pure' (x.1 ≤ w * h ∧ one? x.2 = true), pt r17 83 [.int .i64 planes, x.2, .pointer (some ⟨rF, 0, none⟩), .pointer (some ⟨rZ, 0, none⟩), .bool false], Sl 85 5 x.1 x.2 (scells (List.replicate x.1 ⟨noBk, 0, 3⟩) (List.replicate x.1 ((.slice none 0 0, .slice none 0 0) : Value × Value))), RG rF (tshape w h) (List.replicate (total (tshape w h)) ⟨0, 0, false⟩), RG rZ (tshape w h) (List.replicate (total (tshape w h)) ⟨0, 0, false⟩)]) (ks := [0,1,7,8]) (.cons rfl (.cons rfl (.cons rfl (.cons rfl .nil)))) (holds_pure ⟨Nat.zero_le _, rfl⟩ (by dsimp only [List.replicate_zero]; rw [sc_nil]; exact holds_of_picks (by with_reducible repeat constructor))) ?_)
 intro ⟨k, v⟩ base ih0
 refine Tr.pure fun ⟨hk, hov⟩ => ?_
 dsimp only at hk hov ⊢
 refine tr_seq (tr_seq (tr_region (tmv rfl (tmv rfl (trl_pv (pv_conv (pv_maxI rfl rfl) (congrArg (Value.int .i64) (show max (w : Int) 0 = ((w : Nat) : Int) from by omega))) (tmv rfl (trl_pv (pv_conv (pv_maxI rfl rfl) (congrArg (Value.int .i64) (show max (h : Int) 0 = ((h : Nat) : Int) from by omega))) (trl_pv (pv_conv (pv_mulI rfl rfl (by omega) (by omega)) (congrArg (Value.int .i64) (show (w : Int) * (h : Int) = ((w * h : Nat) : Int) from by simp))) ?_))))))))
 refine trl_pv (pv_lss rfl rfl) (trl_nil (tr_if rfl (fun h0 => ?_) (fun h0 => ?_)))
 ·refine tr_skip (tr_seq (tr_block (tr_region (tmv rfl (tmv rfl (tnc rfl (trl_pv (pv_fieldAddr runUnderlying83 rfl sizeOf80 rfl rfl) (trl_val (rv_load isAgg80 rfl (by with_reducible repeat constructor) rfl) ?_))))))))
  refine trl_pv (pv_build (pl := [(0, 3), (3, 1), (4, 1)]) runUnderlying85 zeroValue85 (fun w => by simp [sizeOf3, sizeOf51]) (by dsimp only [cellsL, List.toList_toArray]) rfl rfl) ?_
  refine trl_eff (ef_buildSlice runUnderlying80 sizeOf85 zeroValue85 rfl rfl rfl rfl rfl (by dsimp only [flatC, cellsL, List.toList_toArray, List.cons_append, List.nil_append, List.append_nil]) fun r33 => ?_)
  refine trl_eff (ef_append runUnderlying80 runUnderlying80 typeInfo85 sizeOf85 zeroValue85 rfl rfl rfl (by with_reducible repeat constructor) (reads_pt (by with_reducible repeat constructor) rfl) rfl (by simp [one?]) (by rw [show Tryz.t85.bytes = 72 from rfl]; omega) fun v34 ho34 => ?_)
  refine tnc rfl (trl_pv (pv_fieldAddr runUnderlying83 rfl sizeOf80 rfl rfl) (trl_eff0 (ef_store sizeOf80 rfl rfl (by first | rfl | assumption) (by with_reducible repeat constructor) rfl ?_)))
  refine trl_nil (tr_keep (ks := [0,1,7,8]) (.cons rfl (.cons rfl (.cons rfl (.cons rfl .nil)))) fun base => ?_)
  refine tr_inBlock (tr_region (tmv rfl (trl_pv (pv_addI rfl rfl (by omega) (by omega)) ?_)))
  refine tas rfl (trl_nil (tr_again ih0 (k + 1, v34) (by first | omega | (dsimp only; omega)) (.cons rfl (.cons rfl (.cons rfl (.cons (keep_int rfl (by dsimp only; omega)) .nil)))) (by dsimp only; rw [sc_begun]; exact holds_pure ⟨by omega, ho34⟩ (holds_of_picks (by with_reducible repeat constructor)))))
 ·refine tr_exit rfl (tr_seq (tr_region (tmv rfl (tas rfl (trl_nil (tr_keep (ks := [6]) (.cons rfl .nil) fun base => ?_))))))
  obtain rfl : k = w * h := by omega
  refine Tr.fold (sls_noBk (tp := 90) (tb := 5) (s := ⟨noBk, 0, 3⟩) rfl (w * h)) .nil ?_
  refine Tr.fold (rb_fold (g := ⟨r17, v, rF, rZ, (List.replicate (w * h) ((.slice none 0 0, .slice none 0 0) : Value × Value))⟩) (bd := newBd planes w h) (r := r17) (v := v) (p := planes) (rF := rF) (rZ := rZ) (st := false) (sh := tshape w h) (T1 := List.replicate (total (tshape w h)) ⟨0, 0, false⟩) (T2 := List.replicate (total (tshape w h)) ⟨0, 0, false⟩) (cs := scells (List.replicate (w * h) ⟨noBk, 0, 3⟩) (List.replicate (w * h) ((.slice none 0 0, .slice none 0 0) : Value × Value))) (ss' := List.replicate (w * h) ⟨noBk, 0, 3⟩) (n := w * h) (by simp [newBd]) rfl rfl rfl rfl rfl (fun _ => rfl) (by simp [newBd]) (by simp [newBd, us, unsay]) rfl rfl rfl rfl) (by with_reducible repeat constructor) ?_
  refine tr_ret func16 rfl .nil (by kernel_rfl) (.tmp rfl .nil) ⟨r17, v, rF, rZ, (List.replicate (w * h) ((.slice none 0 0, .slice none 0 0) : Value × Value))⟩ rfl trivial (holds_of_picks (by with_reducible repeat constructor))
theorem r_add {k : Nat} {g : Gd} {bd : Bd} {s : Bs} {gg : Value × Value} {pl : Int} {pv bv : Value} {ps : List (Int × Bool)} {bys : List Nat} (hs : bd.ss[k]? = some s) (hgg : g.gs[k]? = some gg) (hn : bd.ss.length ≤ 100000) :
    Spec Tryz.prog 21 [.pointer (some ⟨g.r, 0, none⟩), .int .i64 (k : Nat), .agg #[.int .i64 pl, pv, bv]] [RB g bd, Sl 90 2 ps.length pv (passC ps), Sl 5 1 bys.length bv (u8s bys)]
    (fun _ : Unit => ⟨.tuple #[], True, [RB { g with gs := g.gs.set k (pv, bv) } { bd with ss := bd.ss.set k { s with b := ⟨pl, ps, bys⟩ } }]⟩) := by
 refine spec_of_tr func21 rfl ntmps21 (by kernel_rfl) ?_
 have hk := (List.getElem?_eq_some_iff.1 hs).1
 refine Tr.unfold (rb_open (g := g) (bd := bd)) (by with_reducible repeat constructor) fun st ⟨hgl, hst⟩ => ?_
 dsimp only [List.cons_append, List.nil_append]
 refine tr_seq (tr_region (trl_eff (ef_box rfl (by dsimp only [cellsL, List.toList_toArray]) fun r5 => ?_)))
 refine trl_nil (tr_seq (tr_region (tmv rfl (trl_pv (pv_geq rfl rfl) (tmv rfl (trl_pvg rfl (decide_eq_true (by omega)) (pv_move rfl) ?_))))))
 refine trl_pvg rfl (decide_eq_true (by omega)) (pv_move rfl) ?_
 refine trl_pvg rfl (decide_eq_true (by omega)) (pv_nilCheck rfl) ?_
 refine trl_pvg rfl (decide_eq_true (by omega)) (pv_fieldAddr runUnderlying83 rfl sizeOf80 rfl rfl) ?_
 refine trl_valg rfl (decide_eq_true (by omega)) (rv_load isAgg80 rfl (by with_reducible repeat constructor) rfl) ?_
 refine trl_valg rfl (decide_eq_true (by omega)) (rv_len_sl runUnderlying80 rfl (by with_reducible repeat constructor)) ?_
 refine trl_pvg rfl (decide_eq_true (by omega)) (pv_lss rfl rfl) ?_
 refine trl_pv (pv_pick_t rfl (decide_eq_true (by omega)) rfl) ?_
 refine trl_nil (tr_keep (ks := [0,1,5,16]) (.cons rfl (.cons rfl (.cons rfl (.cons rfl .nil)))) fun base => ?_)
 refine tr_then rfl (decide_eq_true (by omega)) ?_
 refine Tr.unfold (sls_open hgg hs) (by with_reducible repeat constructor) fun _ _ => ?_
 dsimp only [List.cons_append, List.nil_append]
 refine Tr.fact (p := one? pv = true) (fun F w hw => SlV.one (SlV.of (Holds.perm hw (Pick.perm (A := Sl 90 2 ps.length pv (passC ps)) (by with_reducible repeat constructor))))) fun hop => ?_
 refine Tr.fact (p := one? bv = true) (fun F w hw => SlV.one (SlV.of (Holds.perm hw (Pick.perm (A := Sl 5 1 bys.length bv (u8s bys)) (by with_reducible repeat constructor))))) fun hob => ?_
 refine Tr.fold (bp_fold (tp := 90) (tb := 5) (g := (pv, bv)) (s := { s with b := ⟨pl, ps, bys⟩ })) (by with_reducible repeat constructor) ?_
 refine Tr.fold (sls_put2 (A := BP 90 5) (l := g.gs) (m := bd.ss) (k := k) (by omega) hk) (by with_reducible repeat constructor) ?_
 refine tr_draww (rem := [0,1,2,3,4,5,6,7,8]) (by kernel_rfl) (by kernel_rfl) rfl ?_
 refine twm 0 [1,2,3,6,7,8] rfl (by kernel_rfl) rfl rfl (twn 1 [2,3,6,7,8] rfl (by kernel_rfl) rfl rfl (trw_pure 2 [3,6,7,8] rfl (by kernel_rfl) rfl (pv_fieldAddr runUnderlying83 rfl sizeOf80 rfl rfl) (twm 4 [6,7,8] rfl (by kernel_rfl) rfl rfl (trw_read 3 [6,7,8] rfl (by kernel_rfl) rfl (rv_load isAgg80 rfl (by with_reducible repeat constructor) rfl) ?_))))
 refine trw_read 5 [6,7,8] rfl (by kernel_rfl) rfl (rv_load_agg isAgg51 sizeOf51 rfl (by with_reducible repeat constructor) rfl) ?_
 refine trw_read 6 [7,8] rfl (by kernel_rfl) rfl (rv_indexAddr_sl runUnderlying80 sizeOf85 rfl rfl (by with_reducible repeat constructor) (by omega) (by omega)) ?_
 refine trw_pure 7 [8] rfl (by kernel_rfl) rfl (pv_fieldAddr runUnderlying85 rfl sizeOf51 rfl rfl) (trw_one 8 (by kernel_rfl) ?_)
 refine trwat_eff0 rfl rfl rfl (ef_store_agg_sl sizeOf51 rfl rfl (by simp [hop, hob, one_int]) (by with_reducible repeat constructor) (by rw [sc_length (by rw [us_length]; exact hgl), us_length]; simp; omega) (by decide) (Eq.trans (sc_put (b' := ⟨pl, ps, bys⟩) (g' := (pv, bv)) (us_get hs) hgg) (show _ = scells (us (bd.ss.set k { s with b := ⟨pl, ps, bys⟩ })) (g.gs.set k (pv, bv)) from by rw [← us_set]; rfl)) ?_)
 refine ⟨?_, trivial⟩
 refine trw_nil ?_
 refine Tr.fold (rb_fold (g := { g with gs := g.gs.set k (pv, bv) }) (bd := { bd with ss := bd.ss.set k { s with b := ⟨pl, ps, bys⟩ } }) (r := g.r) (v := g.v) (p := bd.planes) (rF := g.rF) (rZ := g.rZ) (sh := bd.sh) (T1 := bd.first) (T2 := bd.zeros) (st := st) (cs := scells (us (bd.ss.set k { s with b := ⟨pl, ps, bys⟩ })) (g.gs.set k (pv, bv))) (n := bd.ss.length) (ss' := bd.ss.set k { s with b := ⟨pl, ps, bys⟩ }) (by simp [hgl]) rfl rfl rfl rfl rfl (fun hne => hst (fun e => hne (by simp [e]))) (by simp) rfl rfl rfl rfl rfl) (by with_reducible repeat constructor) ?_
 refine tr_keep (ks := []) (.nil) fun base => ?_
 refine tr_end func21 rfl .nil (by kernel_rfl) .nil () rfl trivial (holds_of_picks (by with_reducible repeat constructor))
theorem r_news {pl sd lb : Int} {pv bv : Value} {n count layer : Nat} {cells : List Value} (hn : n ≤ 100) (hc : 1 ≤ count) (hc2 : count ≤ 100) (hl : layer ≤ 100) : Spec Tryz.prog 34 [.agg #[.int .i64 pl, pv, bv, .int .i64 sd, .int .i64 lb], .int .i64 (count : Nat), .int .i64 (layer : Nat)] [Sl 90 2 n pv cells]
    (fun _ : Unit => ⟨.tuple #[.int .i64 (passesF n count layer : Nat), .int .i64 (passesF n count (layer + 1) : Nat)], True, [Sl 90 2 n pv cells]⟩) := by
 refine spec_of_tr func34 rfl ntmps34 (by kernel_rfl) ?_
 refine tr_seq (tr_region (trl_eff (ef_box rfl (by dsimp only [cellsL, List.toList_toArray]) fun r3 => ?_)))
 refine tas rfl (tas rfl (trl_nil (tr_seq (tr_region (trl_pv (pv_fieldAddr runUnderlying85 rfl sizeOf51 rfl rfl) (trl_pv (pv_fieldAddr runUnderlying51 rfl sizeOf49 rfl rfl) (trl_val (rv_load isAgg49 rfl (by with_reducible repeat constructor) rfl) ?_)))))))
 refine trl_val (rv_len_sl runUnderlying49 rfl (by with_reducible repeat constructor)) ?_
 refine tas rfl (trl_nil (tr_keep (ks := [1,2,8]) (.cons rfl (.cons rfl (.cons rfl .nil))) fun base => ?_))
 refine tr_seq (tr_region (tmv rfl (tmv rfl (tmv rfl (trl_eff (ef_call rfl rfl call78 (r_passes (total := n) (count := count) (l := layer) hn hc hc2 (by omega)) (by with_reducible repeat constructor) fun x16 hx16 => ?_))))))
 dsimp only [List.cons_append, List.nil_append]
 refine tmv rfl (tmv rfl (tmv rfl (trl_pv (pv_conv (pv_addI rfl rfl (by omega) (by omega)) (congrArg (Value.int .i64) (show (layer : Int) + 1 = ((layer + 1 : Nat) : Int) from by omega))) ?_)))
 refine trl_eff (ef_call rfl rfl call78 (r_passes (total := n) (count := count) (l := layer + 1) hn hc hc2 (by omega)) (by with_reducible repeat constructor) fun x21 hx21 => ?_)
 dsimp only [List.cons_append, List.nil_append]
 refine tas rfl (tas rfl (trl_nil (tr_keep (ks := [6,7]) (.cons rfl (.cons rfl .nil)) fun base => ?_)))
 refine tr_ret func34 rfl .nil (by kernel_rfl) (.tmp rfl (.tmp rfl .nil)) () rfl trivial (holds_of_picks (by with_reducible repeat constructor))
theorem r_ends_of {pl : Int} {pv bv : Value} {ps : List (Int × Bool)} (hn : ps.length ≤ 100) : Spec Tryz.prog 84 [.agg #[.int .i64 pl, pv, bv]] [Sl 90 2 ps.length pv (passC ps)]
    (fun v : Value => ⟨v, one? v = true, [Sl 90 2 ps.length pv (passC ps), Sl 3 1 ps.length v (i64s (ps.map (·.1)))]⟩) := by
 refine spec_of_tr func84 rfl ntmps84 (by kernel_rfl) ?_
 refine tr_seq (tr_region (trl_eff (ef_box rfl (by dsimp only [cellsL, List.toList_toArray]) fun r1 => ?_)))
 refine tas rfl (trl_nil (tr_seq (tr_region (tas rfl (trl_nil (tr_seq (tr_seq (tr_region (tas rfl (trl_nil ?_))))))))))
 refine tr_empty 3 1 none ?_
 refine tr_block (tr_while (α := Nat × Value) ((0, .slice none 0 0)) (fun x => ps.length - x.1) (fun x => [(1, .pointer (some ⟨r1, 0, none⟩)), (3, x.2), (4, .int .i64 (x.1 : Nat))]) (fun x => [pure' (x.1 ≤ ps.length ∧ one? x.2 = true), pt r1 51 [.int .i64 pl, pv, bv], Sl 90 2 ps.length pv (passC ps), Sl 3 1 x.1 x.2 (i64s ((ps.map (·.1)).take x.1))]) (ks := [1,3,4]) (.cons rfl (.cons rfl (.cons rfl .nil))) (holds_pure ⟨Nat.zero_le _, rfl⟩ (by dsimp only [List.take_zero]; rw [i64s_nil]; exact holds_of_picks (by with_reducible repeat constructor))) ?_)
 intro ⟨i, v⟩ base ih0
 refine Tr.pure fun ⟨hi, hov⟩ => ?_
 dsimp only at hi hov ⊢
 refine tr_seq (tr_seq (tr_region (tmv rfl (trl_pv (pv_fieldAddr runUnderlying51 rfl sizeOf49 rfl rfl) (trl_val (rv_load isAgg49 rfl (by with_reducible repeat constructor) rfl) ?_)))))
 refine trl_val (rv_len_sl runUnderlying49 rfl (by with_reducible repeat constructor)) ?_
 refine trl_pv (pv_lss rfl rfl) (trl_nil (tr_if rfl (fun h0 => ?_) (fun h0 => ?_)))
 ·refine tr_skip (tr_seq (tr_block ?_))
  obtain ⟨x, hx⟩ := get_some (l := ps) (i := i) (by omega)
  have hxm : (ps.map (·.1))[i]? = some x.1 := by simp [hx]
  refine tr_region (tmv rfl (trl_pv (pv_fieldAddr runUnderlying51 rfl sizeOf49 rfl rfl) (trl_val (rv_load isAgg49 rfl (by with_reducible repeat constructor) rfl) ?_)))
  refine tmv rfl (trl_val (rv_indexAddr_sl runUnderlying49 sizeOf90 rfl rfl (by with_reducible repeat constructor) (by omega) (by omega)) ?_)
  refine trl_pv (pv_fieldAddr runUnderlying90 rfl sizeOf3 rfl rfl) (trl_val (rv_load_sl isAgg3 rfl (by with_reducible repeat constructor) (show (passC ps)[((i : Nat) : Int).toNat * 2 + 0]? = some (.int .i64 x.1) from pc_part (i := i) hx 0 (by decide))) ?_)
  refine trl_eff (ef_buildSlice runUnderlying38 sizeOf3 zeroValue3 rfl rfl rfl rfl rfl (by dsimp only [flatC, cellsL, List.toList_toArray, List.cons_append, List.nil_append, List.append_nil]) fun r19 => ?_)
  refine trl_eff (ef_append runUnderlying38 runUnderlying38 typeInfo3 sizeOf3 zeroValue3 rfl rfl rfl (by with_reducible repeat constructor) (reads_pt (by with_reducible repeat constructor) rfl) rfl (by simp [one?]) (by rw [show Tryz.t3.bytes = 8 from rfl]; omega) fun v20 ho20 => ?_)
  refine tas rfl (trl_nil (tr_keep (ks := [1,3,4]) (.cons rfl (.cons rfl (.cons rfl .nil))) fun base => ?_))
  refine tr_inBlock (tr_region (tmv rfl (trl_pv (pv_addI rfl rfl (by omega) (by omega)) ?_)))
  refine tas rfl (trl_nil (tr_again ih0 (i + 1, v20) (by first | omega | (dsimp only; omega)) (.cons rfl (.cons rfl (.cons (keep_int rfl (by dsimp only; omega)) .nil))) (by dsimp only; rw [take_next hxm, i64s_append, i64s_one]; exact holds_pure ⟨by omega, ho20⟩ (holds_of_picks (by with_reducible repeat constructor)))))
 ·refine tr_exit rfl (tr_seq (tr_region (tmv rfl (tas rfl (trl_nil (tr_keep (ks := [2]) (.cons rfl .nil) fun base => ?_))))))
  obtain rfl : i = ps.length := by omega
  refine tr_ret func84 rfl .nil (by kernel_rfl) (.tmp rfl .nil) v rfl hov (by rw [List.take_of_length_le (by simp)]; exact holds_of_picks (by with_reducible repeat constructor))
theorem r_set {g : Gd} {bd : Bd} {count : Nat} (hB : BdOk bd) (hR : RdOk bd) (hc : 1 ≤ count) (hc2 : count ≤ 100) (hn : bd.ss.length ≤ 100000) : Spec Tryz.prog 33 [.pointer (some ⟨g.r, 0, none⟩), .int .i64 (count : Nat)] [RB g bd]
    (fun _ : Unit => ⟨.tuple #[], True, [RB g (plantF count bd)]⟩) := by
 refine spec_of_tr func33 rfl ntmps33 (by kernel_rfl) ?_
 refine Tr.unfold (rb_open (g := g) (bd := bd)) (by with_reducible repeat constructor) fun st ⟨hgl, hst⟩ => ?_
 dsimp only [List.cons_append, List.nil_append]
 refine tr_seq (tr_seq (tr_region (tmv rfl (tnc rfl (trl_pv (pv_fieldAddr runUnderlying83 rfl sizeOf4 rfl rfl) (trl_val (rv_load isAgg4 rfl (by with_reducible repeat constructor) rfl) ?_))))))
 refine trl_nil (tr_ifb rfl (fun h0 => ?_) (fun h0 => ?_))
 ·refine Tr.fold (rb_fold (g := g) (bd := bd) hgl rfl rfl rfl rfl rfl hst rfl rfl rfl rfl rfl rfl) (by with_reducible repeat constructor) ?_
  refine Tr.fold (rb_full (count := count) hB (fun hne => by rw [← hst hne]; exact h0)) (by with_reducible repeat constructor) ?_
  refine tr_ret func33 rfl .nil (by kernel_rfl) .nil () rfl trivial (holds_of_picks (by with_reducible repeat constructor))
 ·refine tr_skip (tr_seq (tr_region (tmv rfl (tnc rfl (trl_pv (pv_fieldAddr runUnderlying83 rfl sizeOf4 rfl rfl) (trl_eff0 (ef_store sizeOf4 rfl rfl (by first | rfl | assumption) (by with_reducible repeat constructor) rfl ?_)))))))
  refine trl_nil ?_
  obtain ⟨hz1, hz2⟩ := first_noughts hB (fun hne => by rw [← hst hne]; exact h0)
  rw [hz1, hz2]
  have hnl : (noughts bd.ss.length).length = leavesOf bd.sh := by rw [hB.leaves]; simp [noughts]
  have hnb : ∀ y ∈ noughts bd.ss.length, y ≤ big := by intro y hy; simp [noughts] at hy; simp [hy.2, big]
  refine Tr.fold (rs_rg (r := g.rF) hB.fine.1 hnl hnb) (by with_reducible repeat constructor) ?_
  refine Tr.fold (rs_rg (r := g.rZ) hB.fine.1 hnl hnb) (by with_reducible repeat constructor) ?_
  have hf1 : (firstNums count bd).length = bd.ss.length := by simp [firstNums]
  have hz3 : (zeroNums bd).length = bd.ss.length := by simp [zeroNums]
  have htot := total_fine hB.fine
  rw [show RS g.rF bd.sh (noughts bd.ss.length) = RS g.rF bd.sh (partN (firstNums count bd) 0) from by rw [partN_zero, hf1], show RS g.rZ bd.sh (noughts bd.ss.length) = RS g.rZ bd.sh (partN (zeroNums bd) 0) from by rw [partN_zero, hz3]]
  refine tr_keep (ks := [0,1]) (.cons rfl (.cons rfl .nil)) fun base => ?_
  refine tr_seq (tr_region (tas rfl (trl_nil (tr_block (tr_while (α := Nat) (0) (fun k => bd.ss.length - k) (fun k => [(0, .pointer (some ⟨g.r, 0, none⟩)), (1, .int .i64 (count : Nat)), (4, .int .i64 (k : Nat))]) (fun k => [pure' (k ≤ bd.ss.length), pt g.r 83 [.int .i64 bd.planes, g.v, .pointer (some ⟨g.rF, 0, none⟩), .pointer (some ⟨g.rZ, 0, none⟩), .bool true], Sl 85 5 bd.ss.length g.v (scells (us bd.ss) g.gs), SLs (BP 90 5) g.gs bd.ss, RS g.rF bd.sh (partN (firstNums count bd) k), RS g.rZ bd.sh (partN (zeroNums bd) k)]) (ks := [0,1,4]) (.cons rfl (.cons rfl (.cons rfl .nil))) (holds_pure (Nat.zero_le _) (holds_of_picks (by with_reducible repeat constructor))) ?_)))))
  intro k base ih0
  refine Tr.pure fun hk => ?_
  refine tr_seq (tr_seq (tr_region (tmv rfl (tmv rfl (tnc rfl (trl_pv (pv_fieldAddr runUnderlying83 rfl sizeOf80 rfl rfl) (trl_val (rv_load isAgg80 rfl (by with_reducible repeat constructor) rfl) ?_)))))))
  refine trl_val (rv_len_sl runUnderlying80 rfl (by with_reducible repeat constructor)) ?_
  refine trl_pv (pv_lss rfl rfl) (trl_nil (tr_if rfl (fun h1 => ?_) (fun h1 => ?_)))
  ·obtain ⟨s, hs⟩ := get_some (l := bd.ss) (i := k) (by omega)
   obtain ⟨gg, hgg⟩ := get_some (l := g.gs) (i := k) (by omega)
   have hso := hB.ss s (List.mem_of_getElem? hs)
   have hpl := hso.b.len
   have hpp := hR.pl s (List.mem_of_getElem? hs)
   have hp0 := hB.p0
   have hp1 := hB.p1
   have hq0 := hso.b.pl0
   have hq1 := hso.b.pl1
   have hus := us_get hs
   refine Tr.unfold (sls_open hgg hs) (by with_reducible repeat constructor) fun _ _ => ?_
   dsimp only [List.cons_append, List.nil_append]
   refine Tr.unfold bp_open (by exact .here) fun _ _ => ?_
   dsimp only [List.cons_append, List.nil_append]
   refine tr_skip (tr_seq (tr_block (tr_seq (tr_region (tas rfl (trl_nil (tr_keep (ks := [0,1,4,5]) (.cons rfl (.cons rfl (.cons rfl (.cons rfl .nil)))) fun base => ?_)))))))
   refine tr_seq (tr_block (tr_while (α := Nat) (0) (fun l => count - l) (fun l => [(0, .pointer (some ⟨g.r, 0, none⟩)), (1, .int .i64 (count : Nat)), (4, .int .i64 (k : Nat)), (5, .int .i64 (l : Nat))]) (fun l => [pure' (l ≤ count ∧ firstOf s.b.ps.length count = firstL s.b.ps.length count (count - l) l), pt g.r 83 [.int .i64 bd.planes, g.v, .pointer (some ⟨g.rF, 0, none⟩), .pointer (some ⟨g.rZ, 0, none⟩), .bool true], Sl 85 5 bd.ss.length g.v (scells (us bd.ss) g.gs), Sl 90 2 s.b.ps.length gg.1 (passC s.b.ps), Sl 5 1 s.b.bys.length gg.2 (u8s s.b.bys), SLs (BP 90 5) (g.gs.eraseIdx k) (bd.ss.eraseIdx k), RS g.rF bd.sh (partN (firstNums count bd) k), RS g.rZ bd.sh (partN (zeroNums bd) k)]) (ks := [0,1,4,5]) (.cons rfl (.cons rfl (.cons rfl (.cons rfl .nil)))) (holds_pure ⟨Nat.zero_le _, rfl⟩ (holds_of_picks (by with_reducible repeat constructor))) ?_))
   intro l base ih1
   refine Tr.pure fun ⟨hl, hf⟩ => ?_
   refine tr_seq (tr_seq (tr_region (tmv rfl (tmv rfl (trl_pv (pv_lss rfl rfl) (tmv rfl (trl_split 3 rfl (fun g25 => ?_) (fun g25 => ?_))))))))
   ·refine trl_pvg rfl (decide_eq_true g25) (pv_move rfl) (trl_pvg rfl (decide_eq_true g25) (pv_nilCheck rfl) (trl_pvg rfl (decide_eq_true g25) (pv_fieldAddr runUnderlying83 rfl sizeOf80 rfl rfl) (trl_valg rfl (decide_eq_true g25) (rv_load isAgg80 rfl (by with_reducible repeat constructor) rfl) ?_)))
    refine trl_pvg rfl (decide_eq_true g25) (pv_move rfl) (trl_valg rfl (decide_eq_true g25) (rv_indexAddr_sl runUnderlying80 sizeOf85 rfl rfl (by with_reducible repeat constructor) (by omega) (by omega)) ?_)
    refine trl_pvg rfl (decide_eq_true g25) (pv_fieldAddr runUnderlying85 rfl sizeOf51 rfl rfl) (trl_pvg rfl (decide_eq_true g25) (pv_fieldAddr runUnderlying51 rfl sizeOf49 rfl rfl) (trl_valg rfl (decide_eq_true g25) (rv_load_sl isAgg49 rfl (by with_reducible repeat constructor) (sc_pv hus hgg)) ?_))
    refine trl_valg rfl (decide_eq_true g25) (rv_len_sl runUnderlying49 rfl (by with_reducible repeat constructor)) ?_
    refine trl_pvg rfl (decide_eq_true g25) (pv_move rfl) (trl_pvg rfl (decide_eq_true g25) (pv_move rfl) (trl_pvg rfl (decide_eq_true g25) (pv_conv (pv_addI rfl rfl (by omega) (by omega)) (congrArg (Value.int .i64) (show (l : Int) + 1 = ((l + 1 : Nat) : Int) from by omega))) ?_))
    refine trl_effg rfl (decide_eq_true g25) (ef_call rfl rfl call78 (r_passes (total := s.b.ps.length) (count := count) (l := l + 1) hpl hc hc2 (by omega)) (by with_reducible repeat constructor) fun x39 hx39 => ?_)
    dsimp only [List.cons_append, List.nil_append]
    refine trl_pvg rfl (decide_eq_true g25) (pv_eql rfl rfl) (trl_pv (pv_pick_t rfl (decide_eq_true g25) rfl) (trl_nil (tr_keep (ks := [0,1,4,5,41]) (.cons rfl (.cons rfl (.cons rfl (.cons rfl (.cons rfl .nil))))) fun base => ?_)))
    refine tr_if rfl (fun h2 => ?_) (fun h2 => ?_)
    ·refine tr_skip (tr_block (tr_region (tmv rfl (trl_pv (pv_addI rfl rfl (by omega) (by omega)) ?_))))
     refine tas rfl (trl_nil (tr_inBlock (tr_again ih1 (l + 1) (by first | omega | (dsimp only; omega)) (.cons rfl (.cons rfl (.cons rfl (.cons (keep_int rfl (by omega)) .nil)))) (holds_pure ⟨by omega, firstOf_more hf (by omega) (by omega)⟩ (holds_of_picks (by with_reducible repeat constructor))))))
    ·refine tr_exit rfl (tr_seq ?_)
     have hfo := firstOf_stop hf hl (.inr (by omega))
     have hfn : (firstNums count bd)[k]? = some (l : Int) := by simp [firstNums, hs, hfo]
     have hzn : (zeroNums bd)[k]? = some (bd.planes - s.b.pl) := by simp [zeroNums, hs]; omega
     have hpf := partN_length (nums := firstNums count bd) (i := k) (by omega)
     have hpz := partN_length (nums := zeroNums bd) (i := k) (by omega)
     refine tr_region (tmv rfl (tnc rfl (trl_pv (pv_fieldAddr runUnderlying83 rfl sizeOf81 rfl rfl) (trl_val (rv_load isAgg81 rfl (by with_reducible repeat constructor) rfl) ?_))))
     refine tmv rfl (tmv rfl (trl_eff (ef_call rfl rfl call79 (rs_set (sh := bd.sh) (nums := partN (firstNums count bd) k) (k := k) (n := (l : Int)) (by omega) (by simp [big]; omega) (by omega)) (by with_reducible repeat constructor) fun x50 hx50 => ?_)))
     dsimp only [List.cons_append, List.nil_append]
     refine trl_nil ?_
     rw [partN_set hfn]
     refine tr_keep (ks := [0,1,4]) (.cons rfl (.cons rfl (.cons rfl .nil))) fun base => ?_
     refine tr_draww (rem := [0,1,2,3,4,5,6,7,8,9,10,11,12,13,14,15,16,17,18,19]) (by kernel_rfl) (by kernel_rfl) rfl ?_
     refine twm 0 [1,2,3,19] rfl (by kernel_rfl) rfl rfl (twn 1 [2,3,19] rfl (by kernel_rfl) rfl rfl (trw_pure 2 [3,19] rfl (by kernel_rfl) rfl (pv_fieldAddr runUnderlying83 rfl sizeOf81 rfl rfl) (twm 4 [19] rfl (by kernel_rfl) rfl rfl (twm 5 [6,7,8,18,19] rfl (by kernel_rfl) rfl rfl (twn 6 [7,8,18,19] rfl (by kernel_rfl) rfl rfl (trw_pure 7 [8,18,19] rfl (by kernel_rfl) rfl (pv_fieldAddr runUnderlying83 rfl sizeOf3 rfl rfl) (twm 9 [10,11,12,14,15,16,17,18,19] rfl (by kernel_rfl) rfl rfl (twn 10 [11,12,14,15,16,17,18,19] rfl (by kernel_rfl) rfl rfl (trw_pure 11 [12,14,15,16,17,18,19] rfl (by kernel_rfl) rfl (pv_fieldAddr runUnderlying83 rfl sizeOf80 rfl rfl) (twm 13 [14,15,16,17,18,19] rfl (by kernel_rfl) rfl rfl (trw_read 3 [19] rfl (by kernel_rfl) rfl (rv_load isAgg81 rfl (by with_reducible repeat constructor) rfl) ?_)))))))))))
     refine trw_read 8 [18,19] rfl (by kernel_rfl) rfl (rv_load isAgg3 rfl (by with_reducible repeat constructor) rfl) ?_
     refine trw_read 12 [14,15,16,17,18,19] rfl (by kernel_rfl) rfl (rv_load isAgg80 rfl (by with_reducible repeat constructor) rfl) ?_
     refine trw_read 14 [15,16,17,18,19] rfl (by kernel_rfl) rfl (rv_indexAddr_sl runUnderlying80 sizeOf85 rfl rfl (by with_reducible repeat constructor) (by omega) (by omega)) ?_
     refine trw_pure 15 [16,17,18,19] rfl (by kernel_rfl) rfl (pv_fieldAddr runUnderlying85 rfl sizeOf51 rfl rfl) (trw_pure 16 [17,18,19] rfl (by kernel_rfl) rfl (pv_fieldAddr runUnderlying51 rfl sizeOf3 rfl rfl) (trw_read 17 [18,19] rfl (by kernel_rfl) rfl (rv_load_sl isAgg3 rfl (by with_reducible repeat constructor) (sc_pl hus hgg)) ?_))
     refine trw_pure 18 [19] rfl (by kernel_rfl) rfl (pv_subI rfl rfl (by show (-9223372036854775808 : Int) ≤ bd.planes - s.b.pl; omega) (by show bd.planes - s.b.pl ≤ (9223372036854775807 : Int); omega)) ?_
     refine trw_one 19 (by kernel_rfl) ?_
     refine trwat_eff rfl rfl rfl (ef_call rfl rfl call79 (rs_set (sh := bd.sh) (nums := partN (zeroNums bd) k) (k := k) (n := bd.planes - s.b.pl) (by omega) (by simp [big]; omega) (by omega)) (by with_reducible repeat constructor) fun x70 hx70 => ?_)
     dsimp only [List.cons_append, List.nil_append]
     refine ⟨?_, trivial⟩
     refine trw_nil ?_
     rw [partN_set hzn]
     refine Tr.fold (bp_fold (tp := 90) (tb := 5) (g := gg) (s := s)) (by with_reducible repeat constructor) ?_
     refine Tr.fold (sls_fold (A := BP 90 5) hgg hs) (by with_reducible repeat constructor) ?_
     refine tr_keep (ks := [0,1,4]) (.cons rfl (.cons rfl (.cons rfl .nil))) fun base => ?_
     refine tr_inBlock (tr_region (tmv rfl (trl_pv (pv_addI rfl rfl (by omega) (by omega)) ?_)))
     refine tas rfl (trl_nil (tr_again ih0 (k + 1) (by first | omega | (dsimp only; omega)) (.cons rfl (.cons rfl (.cons (keep_int rfl (by omega)) .nil))) (holds_pure (by omega) (holds_of_picks (by with_reducible repeat constructor)))))
   ·refine trl_not rfl (decide_eq_false g25) ?_
    refine trl_not rfl (decide_eq_false g25) ?_
    refine trl_not rfl (decide_eq_false g25) ?_
    refine trl_not rfl (decide_eq_false g25) ?_
    refine trl_not rfl (decide_eq_false g25) ?_
    refine trl_not rfl (decide_eq_false g25) ?_
    refine trl_not rfl (decide_eq_false g25) ?_
    refine trl_not rfl (decide_eq_false g25) ?_
    refine trl_not rfl (decide_eq_false g25) ?_
    refine trl_not rfl (decide_eq_false g25) ?_
    refine trl_not rfl (decide_eq_false g25) ?_
    refine trl_not rfl (decide_eq_false g25) ?_
    refine trl_not rfl (decide_eq_false g25) ?_
    refine trl_not rfl (decide_eq_false g25) ?_
    refine trl_not rfl (decide_eq_false g25) ?_
    refine trl_pv (pv_pick_f rfl (decide_eq_false g25) rfl) (trl_nil (tr_keep (ks := [0,1,4,5,41]) (.cons rfl (.cons rfl (.cons rfl (.cons rfl (.cons rfl .nil))))) fun base => ?_))
    refine tr_else rfl rfl ?_
    refine tr_exit rfl (tr_seq ?_)
    have hfo := firstOf_stop hf hl (.inl (by omega))
    have hfn : (firstNums count bd)[k]? = some (l : Int) := by simp [firstNums, hs, hfo]
    have hzn : (zeroNums bd)[k]? = some (bd.planes - s.b.pl) := by simp [zeroNums, hs]; omega
    have hpf := partN_length (nums := firstNums count bd) (i := k) (by omega)
    have hpz := partN_length (nums := zeroNums bd) (i := k) (by omega)
    refine tr_region (tmv rfl (tnc rfl (trl_pv (pv_fieldAddr runUnderlying83 rfl sizeOf81 rfl rfl) (trl_val (rv_load isAgg81 rfl (by with_reducible repeat constructor) rfl) ?_))))
    refine tmv rfl (tmv rfl (trl_eff (ef_call rfl rfl call79 (rs_set (sh := bd.sh) (nums := partN (firstNums count bd) k) (k := k) (n := (l : Int)) (by omega) (by simp [big]; omega) (by omega)) (by with_reducible repeat constructor) fun x50 hx50 => ?_)))
    dsimp only [List.cons_append, List.nil_append]
    refine trl_nil ?_
    rw [partN_set hfn]
    refine tr_keep (ks := [0,1,4]) (.cons rfl (.cons rfl (.cons rfl .nil))) fun base => ?_
    refine tr_draww (rem := [0,1,2,3,4,5,6,7,8,9,10,11,12,13,14,15,16,17,18,19]) (by kernel_rfl) (by kernel_rfl) rfl ?_
    refine twm 0 [1,2,3,19] rfl (by kernel_rfl) rfl rfl (twn 1 [2,3,19] rfl (by kernel_rfl) rfl rfl (trw_pure 2 [3,19] rfl (by kernel_rfl) rfl (pv_fieldAddr runUnderlying83 rfl sizeOf81 rfl rfl) (twm 4 [19] rfl (by kernel_rfl) rfl rfl (twm 5 [6,7,8,18,19] rfl (by kernel_rfl) rfl rfl (twn 6 [7,8,18,19] rfl (by kernel_rfl) rfl rfl (trw_pure 7 [8,18,19] rfl (by kernel_rfl) rfl (pv_fieldAddr runUnderlying83 rfl sizeOf3 rfl rfl) (twm 9 [10,11,12,14,15,16,17,18,19] rfl (by kernel_rfl) rfl rfl (twn 10 [11,12,14,15,16,17,18,19] rfl (by kernel_rfl) rfl rfl (trw_pure 11 [12,14,15,16,17,18,19] rfl (by kernel_rfl) rfl (pv_fieldAddr runUnderlying83 rfl sizeOf80 rfl rfl) (twm 13 [14,15,16,17,18,19] rfl (by kernel_rfl) rfl rfl (trw_read 3 [19] rfl (by kernel_rfl) rfl (rv_load isAgg81 rfl (by with_reducible repeat constructor) rfl) ?_)))))))))))
    refine trw_read 8 [18,19] rfl (by kernel_rfl) rfl (rv_load isAgg3 rfl (by with_reducible repeat constructor) rfl) ?_
    refine trw_read 12 [14,15,16,17,18,19] rfl (by kernel_rfl) rfl (rv_load isAgg80 rfl (by with_reducible repeat constructor) rfl) ?_
    refine trw_read 14 [15,16,17,18,19] rfl (by kernel_rfl) rfl (rv_indexAddr_sl runUnderlying80 sizeOf85 rfl rfl (by with_reducible repeat constructor) (by omega) (by omega)) ?_
    refine trw_pure 15 [16,17,18,19] rfl (by kernel_rfl) rfl (pv_fieldAddr runUnderlying85 rfl sizeOf51 rfl rfl) (trw_pure 16 [17,18,19] rfl (by kernel_rfl) rfl (pv_fieldAddr runUnderlying51 rfl sizeOf3 rfl rfl) (trw_read 17 [18,19] rfl (by kernel_rfl) rfl (rv_load_sl isAgg3 rfl (by with_reducible repeat constructor) (sc_pl hus hgg)) ?_))
    refine trw_pure 18 [19] rfl (by kernel_rfl) rfl (pv_subI rfl rfl (by show (-9223372036854775808 : Int) ≤ bd.planes - s.b.pl; omega) (by show bd.planes - s.b.pl ≤ (9223372036854775807 : Int); omega)) ?_
    refine trw_one 19 (by kernel_rfl) ?_
    refine trwat_eff rfl rfl rfl (ef_call rfl rfl call79 (rs_set (sh := bd.sh) (nums := partN (zeroNums bd) k) (k := k) (n := bd.planes - s.b.pl) (by omega) (by simp [big]; omega) (by omega)) (by with_reducible repeat constructor) fun x70 hx70 => ?_)
    dsimp only [List.cons_append, List.nil_append]
    refine ⟨?_, trivial⟩
    refine trw_nil ?_
    rw [partN_set hzn]
    refine Tr.fold (bp_fold (tp := 90) (tb := 5) (g := gg) (s := s)) (by with_reducible repeat constructor) ?_
    refine Tr.fold (sls_fold (A := BP 90 5) hgg hs) (by with_reducible repeat constructor) ?_
    refine tr_keep (ks := [0,1,4]) (.cons rfl (.cons rfl (.cons rfl .nil))) fun base => ?_
    refine tr_inBlock (tr_region (tmv rfl (trl_pv (pv_addI rfl rfl (by omega) (by omega)) ?_)))
    refine tas rfl (trl_nil (tr_again ih0 (k + 1) (by first | omega | (dsimp only; omega)) (.cons rfl (.cons rfl (.cons (keep_int rfl (by omega)) .nil))) (holds_pure (by omega) (holds_of_picks (by with_reducible repeat constructor)))))
  ·refine tr_exit rfl ?_
   obtain rfl : k = bd.ss.length := by omega
   rw [show partN (firstNums count bd) bd.ss.length = firstNums count bd from by rw [← hf1, partN_all], show partN (zeroNums bd) bd.ss.length = zeroNums bd from by rw [← hz3, partN_all]]
   refine Tr.fold (rg_rs (r := g.rF)) (by with_reducible repeat constructor) ?_
   refine Tr.fold (rg_rs (r := g.rZ)) (by with_reducible repeat constructor) ?_
   obtain ⟨e1, e2⟩ := planted_first (count := count) hB (fun hne => by rw [← hst hne]; exact h0)
   refine Tr.fold (rb_fold (g := g) (bd := plantF count bd) (r := g.r) (v := g.v) (p := bd.planes) (rF := g.rF) (rZ := g.rZ) (st := true) (n := bd.ss.length) (cs := scells (us bd.ss) g.gs) (ss' := bd.ss) (T1 := mk0 (mins bd.sh (firstNums count bd))) (T2 := mk0 (mins bd.sh (zeroNums bd))) (sh := bd.sh) (by rw [plantF_ss]; exact hgl) rfl rfl (plantF_planes _ _) rfl rfl (fun _ => (plantF_set _ _).symm) (by rw [plantF_ss]) (by rw [plantF_ss]) (by rw [plantF_ss]) e1 e2 (plantF_sh _ _)) (by with_reducible repeat constructor) ?_
   refine tr_end func33 rfl .nil (by kernel_rfl) .nil () rfl trivial (holds_of_picks (by with_reducible repeat constructor))
end Go.Proofs
