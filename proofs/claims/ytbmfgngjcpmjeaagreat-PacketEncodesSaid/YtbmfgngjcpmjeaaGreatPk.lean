/- Contracts of functions that the law reaches, in every memory (part Pk). -/
import Derived.Test.YtbmfgngjcpmjeaaGreatLay2
import Derived.Test.YtbmfgngjcpmjeaaGreatEngE
set_option linter.unusedVariables false
set_option linter.unusedSimpArgs false
set_option maxRecDepth 10000
namespace Go.Proofs
open Go.Eng Tryz
def PB (g : Gd) (bd : Bd) : SL := stars [pure' (g.gs.length = bd.ss.length), pt g.r 118 [g.v, .int .i64 bd.planes, .pointer (some ⟨g.rF, 0, none⟩), .pointer (some ⟨g.rZ, 0, none⟩), .bool bd.set],
  Sl 69 5 bd.ss.length g.v (scells bd.ss g.gs), SLs (BP 142 5) g.gs bd.ss, PT g.rF bd.sh bd.first, PT g.rZ bd.sh bd.zeros]
theorem pb_open {g : Gd} {bd : Bd} : Unfold (PB g bd) (fun _ : Unit => g.gs.length = bd.ss.length) (fun _ => [pt g.r 118 [g.v, .int .i64 bd.planes, .pointer (some ⟨g.rF, 0, none⟩), .pointer (some ⟨g.rZ, 0, none⟩), .bool bd.set],
  Sl 69 5 bd.ss.length g.v (scells bd.ss g.gs), SLs (BP 142 5) g.gs bd.ss, PT g.rF bd.sh bd.first, PT g.rZ bd.sh bd.zeros]) := by
  intro F w N hw
  obtain ⟨h1, h2⟩ := Holds.pure.1 (Holds.stars.1 hw)
  exact ⟨(), h1, h2⟩
theorem pb_fold {g : Gd} {bd : Bd} {r n rF rZ : Nat} {v : Value} {p : Int} {st : Bool} {cs : List Value} {ss' : List Bs} {T1 T2 : List Nd} {sh : List (Nat × Nat)} (hg : g.gs.length = bd.ss.length) (hr : g.r = r) (hv : g.v = v) (hp : bd.planes = p) (hF : g.rF = rF) (hZ : g.rZ = rZ)
    (hs : bd.set = st) (hn : bd.ss.length = n) (hc : scells bd.ss g.gs = cs) (hss : ss'.map (·.b) = bd.ss.map (·.b)) (h1 : bd.first = T1) (h2 : bd.zeros = T2) (hsh : bd.sh = sh) :
    Fold [pt r 118 [v, .int .i64 p, .pointer (some ⟨rF, 0, none⟩), .pointer (some ⟨rZ, 0, none⟩), .bool st],
      Sl 69 5 n v cs, SLs (BP 142 5) g.gs ss', PT rF sh T1, PT rZ sh T2] (PB g bd) := by
  intro F w N hw
  subst hr; subst hv; subst hp; subst hF; subst hZ; subst hs; subst hn; subst hc; subst h1; subst h2; subst hsh
  rw [bps_turn hss] at hw
  exact Holds.stars.2 (Holds.pure.2 ⟨hg, hw⟩)
theorem clone_pass {n : Nat} {v : Value} {cells : List Value} (hn : n < 1099511627776) (ho : ∀ v ∈ cells, one? v = true) : Spec Tryz.prog 105 [v] [Sl 142 2 n v cells]
    (fun v' : Value => ⟨v', one? v' = true, [Sl 142 2 n v' cells, Sl 142 2 n v cells]⟩) := by
 refine spec_of_tr func105 rfl ntmps105 (by kernel_rfl) ?_
 refine tr_slen (by with_reducible repeat constructor) fun hov hcl => ?_
 refine tr_seq (tr_region (tas rfl (trl_nil (tr_seq (tr_seq (tr_region (tmv rfl (trl_val (rv_eq_nil_sl runUnderlying56 rfl rfl (by with_reducible repeat constructor)) ?_))))))))
 refine trl_nil (tr_ifb rfl (fun h0 => ?_) (fun h0 => ?_))
 ·refine tr_seq (tr_region (tas rfl (trl_nil (tr_nilV (by with_reducible repeat constructor) h0 fun e1 e2 e3 => ?_))))
  subst e1; subst e2; subst e3
  refine tr_empty 142 2 none ?_
  refine tr_ret func105 rfl .nil (by kernel_rfl) (.tmp rfl .nil) (.slice none 0 0) rfl rfl (holds_of_picks (by with_reducible repeat constructor))
 ·refine tr_skip (tr_seq (tr_region (trl_eff (ef_buildSlice runUnderlying56 sizeOf142 zeroValue142 rfl rfl rfl rfl rfl (by dsimp only [flatC, cellsL, List.toList_toArray, List.cons_append, List.nil_append, List.append_nil]) fun r5 => ?_))))
  refine tmv rfl (trl_eff (ef_append0 runUnderlying56 runUnderlying56 typeInfo142 sizeOf142 zeroValue142 rfl rfl rfl (reads_sl (by with_reducible repeat constructor)) hcl ho (by rw [show Tryz.t142.bytes = 16 from rfl]; omega) fun v7 ho7 => ?_))
  refine tas rfl (trl_nil (tr_ret func105 rfl .nil (by kernel_rfl) (.tmp rfl .nil) v7 rfl ho7 (holds_of_picks (by with_reducible repeat constructor))))
theorem p_own {pl : Int} {pv bv : Value} {ps : List (Int × Bool)} {bys : List Nat} (h1 : ps.length < 1000000) (h2 : bys.length < 1099511627776) : Spec Tryz.prog 67 [.agg #[.int .i64 pl, pv, bv]] [Sl 142 2 ps.length pv (passC ps), Sl 5 1 bys.length bv (u8s bys)]
    (fun x : Value × Value => ⟨.agg #[.int .i64 pl, x.1, x.2], one? x.1 = true ∧ one? x.2 = true, [Sl 142 2 ps.length x.1 (passC ps), Sl 5 1 bys.length x.2 (u8s bys), Sl 142 2 ps.length pv (passC ps), Sl 5 1 bys.length bv (u8s bys)]⟩) := by
 refine spec_of_tr func67 rfl ntmps67 (by kernel_rfl) ?_
 refine tr_seq (tr_region (trl_eff (ef_box rfl (by dsimp only [cellsL, List.toList_toArray]) fun r1 => ?_)))
 refine trl_eff (ef_alloc zeroValue58 (by dsimp only [cellsL, List.toList_toArray]) fun r2 => ?_)
 refine trl_nil (tr_seq (tr_draww (rem := [0,1,2,3,4,5,6,7,8,9]) (by kernel_rfl) (by kernel_rfl) rfl ?_))
 refine trw_pure 0 [1,8,9] rfl (by kernel_rfl) rfl (pv_fieldAddr runUnderlying58 rfl sizeOf3 rfl rfl) (trw_pure 2 [3,4,7,8,9] rfl (by kernel_rfl) rfl (pv_fieldAddr runUnderlying58 rfl sizeOf56 rfl rfl) (trw_pure 5 [6,7,8,9] rfl (by kernel_rfl) rfl (pv_fieldAddr runUnderlying58 rfl sizeOf30 rfl rfl) (trw_read 1 [8,9] rfl (by kernel_rfl) rfl (rv_load isAgg3 rfl (by with_reducible repeat constructor) rfl) ?_)))
 refine trw_read 3 [4,7,8,9] rfl (by kernel_rfl) rfl (rv_load isAgg56 rfl (by with_reducible repeat constructor) rfl) ?_
 refine trw_read 6 [7,8,9] rfl (by kernel_rfl) rfl (rv_load isAgg30 rfl (by with_reducible repeat constructor) rfl) ?_
 refine trw_one 4 (by kernel_rfl) ?_
 refine trwat_eff rfl rfl rfl (ef_call rfl rfl call105 (clone_pass (n := ps.length) (cells := passC ps) (by omega) one_passC) (by with_reducible repeat constructor) fun v7 ho7 => ?_)
 dsimp only [List.cons_append, List.nil_append]
 refine ⟨?_, (rv_load isAgg30 rfl (by with_reducible repeat constructor) rfl), (rv_load isAgg3 rfl (by with_reducible repeat constructor) rfl), trivial⟩
 replace ho7 : one? v7 = true := ho7
 refine trw_one 7 (by kernel_rfl) ?_
 refine trwat_eff rfl rfl rfl (ef_call rfl rfl call31 (clone_u8 (n := bys.length) h2 one_u8s) (by with_reducible repeat constructor) fun v10 ho10 => ?_)
 dsimp only [List.cons_append, List.nil_append]
 refine ⟨?_, (rv_load isAgg3 rfl (by with_reducible repeat constructor) rfl), trivial⟩
 replace ho10 : one? v10 = true := ho10
 refine trw_pure 8 [9] rfl (by kernel_rfl) rfl (pv_build (pl := [(0, 1), (1, 1), (2, 1)]) runUnderlying58 zeroValue58 (fun w => by simp [sizeOf3, sizeOf30, sizeOf56]) (by dsimp only [cellsL, List.toList_toArray]) rfl (show buildC _ _ _ = some [.int .i64 pl, v7, v10] from by simp [buildC, setC, cellsL_one ho7, cellsL_one ho10, show cellsL (Value.int .i64 pl) = [.int .i64 pl] from rfl, putFrom, putL])) ?_
 refine trw_one 9 (by kernel_rfl) ?_
 refine trwat_eff0 rfl rfl rfl (ef_store_agg sizeOf58 rfl rfl (by simp [ho7, ho10, show one? (Value.int .i64 pl) = true from rfl]) (by with_reducible repeat constructor) rfl ?_)
 refine ⟨?_, trivial⟩
 refine trw_nil (tr_keep (ks := [2]) (.cons rfl .nil) fun base => ?_)
 refine tr_ret func67 rfl .nil (by kernel_rfl) (.cell rfl (loadVar_agg isAgg58 sizeOf58 (by with_reducible repeat constructor) rfl) .nil) (v7, v10) rfl ⟨ho7, ho10⟩ (holds_of_picks (by with_reducible repeat constructor))
theorem p_get {r n k : Nat} {v : Value} {cs cells : List Value} (hk : k < n) (hn : n ≤ 100000) : Spec Tryz.prog 66 [.pointer (some ⟨r, 0, none⟩), .int .i64 (k : Nat)] [pt r 118 (v :: cs), Sl 69 5 n v cells]
    (fun _ : Unit => ⟨.tuple #[.pointer (some ⟨slBase v, k * 5, none⟩), .bool true], True, [pt r 118 (v :: cs), Sl 69 5 n v cells]⟩) := by
 refine spec_of_tr func66 rfl ntmps66 (by kernel_rfl) ?_
 refine tr_seq (tr_region (tas rfl (tas rfl (trl_nil (tr_seq (tr_seq (tr_region (tmv rfl (trl_pv (pv_lss rfl rfl) (tmv rfl (trl_pvg rfl (decide_eq_false (by omega)) (pv_move rfl) ?_)))))))))))
 refine trl_pvg rfl (decide_eq_false (by omega)) (pv_move rfl) ?_
 refine trl_pvg rfl (decide_eq_false (by omega)) (pv_nilCheck rfl) ?_
 refine trl_pvg rfl (decide_eq_false (by omega)) (pv_fieldAddr runUnderlying116 rfl sizeOf114 rfl rfl) ?_
 refine trl_valg rfl (decide_eq_false (by omega)) (rv_load isAgg114 rfl (by with_reducible repeat constructor) rfl) ?_
 refine trl_valg rfl (decide_eq_false (by omega)) (rv_len_sl runUnderlying114 rfl (by with_reducible repeat constructor)) ?_
 refine trl_pvg rfl (decide_eq_false (by omega)) (pv_geq rfl rfl) ?_
 refine trl_pv (pv_pick_f rfl (decide_eq_false (by omega)) rfl) ?_
 refine trl_nil (tr_keep (ks := [0,1,16]) (.cons rfl (.cons rfl (.cons rfl .nil))) fun base => ?_)
 refine tr_else rfl (decide_eq_false (by omega)) ?_
 refine tr_skip (tr_seq (tr_region (tmv rfl (tnc rfl (trl_pv (pv_fieldAddr runUnderlying116 rfl sizeOf114 rfl rfl) (trl_val (rv_load isAgg114 rfl (by with_reducible repeat constructor) rfl) ?_))))))
 refine tmv rfl (trl_val (rv_indexAddr_sl runUnderlying114 sizeOf69 rfl rfl (by with_reducible repeat constructor) (by omega) (by omega)) ?_)
 refine tas rfl (tas rfl (trl_nil (tr_keep (ks := [4,5]) (.cons rfl (.cons rfl .nil)) fun base => ?_)))
 refine tr_ret func66 rfl .nil (by kernel_rfl) (.tmp rfl (.tmp rfl .nil)) () rfl trivial (holds_of_picks (by with_reducible repeat constructor))
theorem p_add {r k : Nat} {g : Gd} {bd : Bd} {s : Bs} {gg : Value × Value} {pl : Int} {pv bv : Value} {ps : List (Int × Bool)} {bys : List Nat} (hr : g.r = r) (hs : bd.ss[k]? = some s) (hgg : g.gs[k]? = some gg) (hn : bd.ss.length ≤ 100000) (h1 : ps.length < 1000000) (h2 : bys.length < 1099511627776) :
    Spec Tryz.prog 19 [.pointer (some ⟨r, 0, none⟩), .int .i64 (k : Nat), .agg #[.int .i64 pl, pv, bv]] [PB g bd, Sl 142 2 ps.length pv (passC ps), Sl 5 1 bys.length bv (u8s bys)]
    (fun x : Value × Value => ⟨.tuple #[], one? x.1 = true ∧ one? x.2 = true, [PB { g with gs := g.gs.set k x } { bd with ss := bd.ss.set k { s with b := ⟨pl, ps, bys⟩ } }, Sl 142 2 ps.length pv (passC ps), Sl 5 1 bys.length bv (u8s bys)]⟩) := by
 refine spec_of_tr func19 rfl ntmps19 (by kernel_rfl) ?_
 subst hr
 have hk := (List.getElem?_eq_some_iff.1 hs).1
 refine Tr.unfold pb_open (by with_reducible repeat constructor) fun _ hgl => ?_
 dsimp only [List.cons_append, List.nil_append]
 refine tr_seq (tr_region (trl_eff (ef_box rfl (by dsimp only [cellsL, List.toList_toArray]) fun r5 => ?_)))
 refine trl_nil (tr_seq (tr_region (tmv rfl (tnc rfl (trl_pv (pv_fieldAddr runUnderlying118 rfl sizeOf116 rfl rfl) (tmv rfl (trl_eff (ef_call rfl rfl call66 (p_get (n := bd.ss.length) hk hn) (by with_reducible repeat constructor) fun x13 hx13 => ?_))))))))
 dsimp only [List.cons_append, List.nil_append]
 refine tmv rfl (trl_pv (pv_extract rfl rfl) (trl_pv (pv_extract rfl rfl) (tas rfl (tas rfl (trl_nil (tr_keep (ks := [5,6,7]) (.cons rfl (.cons rfl (.cons rfl .nil))) fun base => ?_))))))
 refine tr_seq (tr_region (tmv rfl (trl_nil (tr_then rfl rfl ?_))))
 refine tr_region (tmv rfl (trl_val (rv_load_agg isAgg58 sizeOf58 rfl (by with_reducible repeat constructor) rfl) ?_))
 refine trl_eff (ef_call rfl rfl call67 (p_own (pl := pl) (pv := pv) (bv := bv) h1 h2) (by with_reducible repeat constructor) fun ⟨pv2, bv2⟩ ho => ?_)
 dsimp only [List.cons_append, List.nil_append]
 replace ho : one? pv2 = true ∧ one? bv2 = true := ho
 refine tnc rfl (trl_pv (pv_fieldAddr runUnderlying69 rfl sizeOf58 rfl rfl) (trl_eff0 (ef_store_agg_sl sizeOf58 rfl rfl (by simp [ho.1, ho.2, show one? (Value.int .i64 pl) = true from rfl]) (by with_reducible repeat constructor) (by rw [sc_length hgl]; simp; omega) (by decide) (sc_put (b' := ⟨pl, ps, bys⟩) (g' := (pv2, bv2)) hs hgg) ?_)))
 refine trl_nil ?_
 refine Tr.unfold (sls_open hgg hs) (by with_reducible repeat constructor) fun _ _ => ?_
 dsimp only [List.cons_append, List.nil_append]
 refine Tr.fold (bp_fold (tp := 142) (tb := 5) (g := (pv2, bv2)) (s := { s with b := ⟨pl, ps, bys⟩ })) (by with_reducible repeat constructor) ?_
 refine Tr.fold (sls_put2 (A := BP 142 5) (l := g.gs) (m := bd.ss) (k := k) (by omega) hk) (by with_reducible repeat constructor) ?_
 refine Tr.fold (pb_fold (g := { g with gs := g.gs.set k (pv2, bv2) }) (bd := { bd with ss := bd.ss.set k { s with b := ⟨pl, ps, bys⟩ } }) (n := bd.ss.length) (ss' := bd.ss.set k { s with b := ⟨pl, ps, bys⟩ }) (by simp [hgl]) rfl rfl rfl rfl rfl rfl (by simp) rfl rfl rfl rfl rfl) (by with_reducible repeat constructor) ?_
 refine tr_keep (ks := []) (.nil) fun base => ?_
 refine tr_end func19 rfl .nil (by kernel_rfl) .nil (pv2, bv2) rfl ho (holds_of_picks (by with_reducible repeat constructor))
theorem p_newband {w h : Nat} {planes : Int} (hw : w ≤ 64) (hh : h ≤ 64) : Spec Tryz.prog 15 [.int .i64 (w : Nat), .int .i64 (h : Nat), .int .i64 planes] []
    (fun g : Gd => ⟨.pointer (some ⟨g.r, 0, none⟩), True, [PB g (newBd planes w h)]⟩) := by
 refine spec_of_tr func15 rfl ntmps15 (by kernel_rfl) ?_
 refine tr_seq (tr_region (tas rfl (trl_nil (tr_seq (tr_seq (tr_region (tmv rfl (trl_pv (pv_lss rfl rfl) (tmv rfl (trl_pvg rfl (decide_eq_false (by omega)) (pv_move rfl) ?_))))))))))
 refine trl_pvg rfl (decide_eq_false (by omega)) (pv_lss rfl rfl) ?_
 refine trl_pv (pv_pick_f rfl (decide_eq_false (by omega)) rfl) ?_
 refine tmv rfl (trl_pvg rfl (decide_eq_false (by omega)) (pv_move rfl) ?_)
 refine trl_pvg rfl (decide_eq_false (by omega)) (pv_gtr rfl rfl) ?_
 refine trl_pv (pv_pick_f rfl (decide_eq_false (by omega)) rfl) ?_
 refine tmv rfl (trl_pvg rfl (decide_eq_false (by omega)) (pv_move rfl) ?_)
 refine trl_pvg rfl (decide_eq_false (by omega)) (pv_gtr rfl rfl) ?_
 refine trl_pv (pv_pick_f rfl (decide_eq_false (by omega)) rfl) ?_
 refine trl_nil (tr_keep (ks := [0,1,2,22]) (.cons rfl (.cons rfl (.cons rfl (.cons rfl .nil)))) fun base => ?_)
 refine tr_else rfl (decide_eq_false (by omega)) ?_
 refine tr_skip (tr_seq (tr_region (tmv rfl (tmv rfl (tmv rfl (trl_eff (ef_call rfl rfl call50 (tree_new hw hh) (by with_reducible repeat constructor) fun rF hx26 => ?_)))))))
 dsimp only [List.cons_append, List.nil_append]
 refine tmv rfl (tmv rfl (trl_eff (ef_call rfl rfl call50 (tree_new hw hh) (by with_reducible repeat constructor) fun rZ hx29 => ?_)))
 dsimp only [List.cons_append, List.nil_append]
 refine trl_pv (pv_build (pl := [(0, 1), (1, 1), (2, 1), (3, 1), (4, 1)]) runUnderlying118 zeroValue118 (fun w => by simp [sizeOf112, sizeOf116, sizeOf3, sizeOf4]) (by dsimp only [cellsL, List.toList_toArray]) rfl rfl) ?_
 refine trl_eff (ef_box rfl (by dsimp only [cellsL, List.toList_toArray]) fun r31 => ?_)
 refine tas rfl (trl_nil (tr_keep (ks := [0,1,7]) (.cons rfl (.cons rfl (.cons rfl .nil))) fun base => ?_))
 refine tr_seq ?_
 have hm : w * h ≤ 64 * 64 := Nat.mul_le_mul hw hh
 refine tr_region (tmv rfl (tmv rfl (tmv rfl (trl_pv (pv_conv (pv_mulI rfl rfl (by omega) (by omega)) (congrArg (Value.int .i64) (show (w : Int) * (h : Int) = ((w * h : Nat) : Int) from by simp))) ?_))))
 refine trl_eff (ef_make (w * h) runUnderlying114 typeInfo69 sizeOf69 zeroValue69 rfl (by dsimp only [cellsL, List.toList_toArray]) rfl rfl (by simp) (by rw [show Tryz.t69.bytes = 72 from rfl]; omega) fun r36 => ?_)
 refine tnc rfl (trl_pv (pv_fieldAddr runUnderlying118 rfl sizeOf116 rfl rfl) (trl_pv (pv_fieldAddr runUnderlying116 rfl sizeOf114 rfl rfl) (trl_eff0 (ef_store sizeOf114 rfl rfl (by first | rfl | assumption) (by with_reducible repeat constructor) rfl ?_))))
 refine trl_nil ?_
 rw [sc_zeros]
 refine Tr.fold (sl_of_pt (e := 69) (p := r36) (n := w * h) (sz := 5) (cells := scells (List.replicate (w * h) ⟨noBk, 0, 0⟩) (List.replicate (w * h) (.slice none 0 0, .slice none 0 0))) (by rw [sc_length (by simp)]; simp)) (by with_reducible repeat constructor) ?_
 refine Tr.fold (sls_noBk (tp := 142) (tb := 5) (s := ⟨noBk, 0, 3⟩) rfl (w * h)) .nil ?_
 refine tr_keep (ks := [7]) (.cons rfl .nil) fun base => ?_
 refine tr_seq (tr_seq (tr_region (tmv rfl (tnc rfl (trl_pv (pv_fieldAddr runUnderlying118 rfl sizeOf116 rfl rfl) (trl_pv (pv_fieldAddr runUnderlying116 rfl sizeOf114 rfl rfl) (trl_val (rv_load isAgg114 rfl (by with_reducible repeat constructor) rfl) ?_)))))))
 refine trl_val (rv_len_sl runUnderlying114 rfl (by with_reducible repeat constructor)) ?_
 refine tmv rfl (trl_nil (tr_block ?_))
 refine tr_while (α := Nat) (0) (fun k => w * h - k) (fun k => [(7, .pointer (some ⟨r31, 0, none⟩)), (45, .int .i64 ((w * h : Nat) : Int)), (46, .int .i64 (k : Nat))]) (fun k => [pure' (k ≤ w * h), pt r31 118 [.slice (some ⟨r36, 0, none⟩) (w * h) (w * h), .int .i64 planes, .pointer (some ⟨rF, 0, none⟩), .pointer (some ⟨rZ, 0, none⟩), .bool false], Sl 69 5 (w * h) (.slice (some ⟨r36, 0, none⟩) (w * h) (w * h)) (scells (begunS (w * h) k) (List.replicate (w * h) (.slice none 0 0, .slice none 0 0))),
              SLs (BP 142 5) (List.replicate (w * h) (.slice none 0 0, .slice none 0 0)) (List.replicate (w * h) ⟨noBk, 0, 3⟩), PT rF (tshape w h) (List.replicate (total (tshape w h)) ⟨0, 0, false⟩), PT rZ (tshape w h) (List.replicate (total (tshape w h)) ⟨0, 0, false⟩)]) (ks := [7,45,46]) (.cons rfl (.cons rfl (.cons rfl .nil))) (holds_pure (Nat.zero_le _) (by rw [begunS_zero]; exact holds_of_picks (by with_reducible repeat constructor))) ?_
 intro k base ih0
 refine Tr.pure fun hk => ?_
 refine tr_seq (tr_region (trl_pv (pv_lss rfl rfl) (trl_nil (tr_seq (tr_if rfl (fun h1 => ?_) (fun h1 => ?_))))))
 ·refine tr_skip (tr_seq (tr_block (tr_seq (tr_region (tmv rfl (tas rfl (trl_nil ?_)))))))
  have hbg := begunS_get (n := w * h) (i := k) (by omega)
  have hrp : (List.replicate (w * h) ((.slice none 0 0, .slice none 0 0) : Value × Value))[k]? = some (.slice none 0 0, .slice none 0 0) := by rw [List.getElem?_replicate, if_pos (by omega)]
  refine tr_region (tmv rfl (tnc rfl (trl_pv (pv_fieldAddr runUnderlying118 rfl sizeOf116 rfl rfl) (trl_pv (pv_fieldAddr runUnderlying116 rfl sizeOf114 rfl rfl) (trl_val (rv_load isAgg114 rfl (by with_reducible repeat constructor) rfl) ?_)))))
  refine tmv rfl (trl_val (rv_indexAddr_sl runUnderlying114 sizeOf69 rfl rfl (by with_reducible repeat constructor) (by omega) (by omega)) ?_)
  refine trl_pv (pv_fieldAddr runUnderlying69 rfl sizeOf3 rfl rfl) (trl_eff0 (ef_store_sl sizeOf3 rfl rfl (by first | rfl | assumption) (by with_reducible repeat constructor) (sc_lt (by simp [begunS_length hk]) (by rw [begunS_length hk]; omega) (by decide)) (sc_set (s' := ⟨noBk, 0, 3⟩) hbg hrp (by decide) rfl) ?_))
  refine trl_nil ?_
  rw [Int.toNat_natCast, begunS_set (n := w * h) (i := k) (by omega)]
  refine tr_keep (ks := [7,45,46]) (.cons rfl (.cons rfl (.cons rfl .nil))) fun base => ?_
  refine tr_inBlock (tr_region (trl_pv (pv_addI rfl rfl (by omega) (by omega)) ?_))
  refine tmv rfl (trl_nil (tr_again ih0 (k + 1) (by first | omega | (dsimp only; omega)) (.cons rfl (.cons rfl (.cons (keep_int rfl (by omega)) .nil))) (holds_pure (by omega) (holds_of_picks (by with_reducible repeat constructor)))))
 ·refine tr_exit rfl (tr_seq (tr_region (tmv rfl (tas rfl (trl_nil ?_)))))
  obtain rfl : k = w * h := by omega
  rw [show begunS (w * h) (w * h) = List.replicate (w * h) ⟨noBk, 0, 3⟩ from by unfold begunS; simp]
  refine Tr.fold (pb_fold (g := ⟨r31, .slice (some ⟨r36, 0, none⟩) (w * h) (w * h), rF, rZ, List.replicate (w * h) (.slice none 0 0, .slice none 0 0)⟩) (bd := newBd planes w h) (r := r31) (v := .slice (some ⟨r36, 0, none⟩) (w * h) (w * h)) (p := planes) (rF := rF) (rZ := rZ) (st := false) (sh := tshape w h) (T1 := List.replicate (total (tshape w h)) ⟨0, 0, false⟩) (T2 := List.replicate (total (tshape w h)) ⟨0, 0, false⟩) (cs := scells (List.replicate (w * h) ⟨noBk, 0, 3⟩) (List.replicate (w * h) (.slice none 0 0, .slice none 0 0))) (ss' := List.replicate (w * h) ⟨noBk, 0, 3⟩) (n := w * h) (by simp [newBd]) rfl rfl rfl rfl rfl rfl (by simp [newBd]) rfl rfl rfl rfl rfl) (by with_reducible repeat constructor) ?_
  refine tr_ret func15 rfl .nil (by kernel_rfl) (.tmp rfl .nil) ⟨r31, .slice (some ⟨r36, 0, none⟩) (w * h) (w * h), rF, rZ, List.replicate (w * h) (.slice none 0 0, .slice none 0 0)⟩ rfl trivial (holds_of_picks (by with_reducible repeat constructor))
theorem p_spots {lv : Value} (hlv : one? lv = true) : Spec Tryz.prog 22 [lv] [] (fun r : Nat => ⟨.func (.func 68) #[] #[.pointer (some ⟨r, 0, none⟩)], True, [pt r 26 [lv]]⟩) := by
 refine spec_of_tr func22 rfl ntmps22 (by kernel_rfl) ?_
 refine tr_seq (tr_region (trl_eff (ef_box rfl (cellsL_one hlv) fun r1 => ?_)))
 refine tas rfl (trl_nil (tr_seq (tr_region (trl_pv (pv_makeFunc rfl rfl) (tas rfl (trl_nil (tr_ret func22 rfl .nil (by kernel_rfl) (.tmp rfl .nil) r1 rfl trivial (holds_of_picks (by with_reducible repeat constructor)))))))))
def HeadsRd (G : List Gd) (I : List SL) : Prop := ∀ (j : Nat) (g : Gd), G[j]? = some g → Rd I g.r 0 g.v
theorem heads_stars {G : List Gd} (I : List SL) (h : HeadsRd G I) : HeadsRd G [stars I] := fun j g hg F w hw => h j g hg F w (by have := Holds.stars.1 hw; rwa [List.append_nil] at this)
def spotV (g : Gd) (k : Nat) : Value := .agg #[.pointer (some ⟨slBase g.v, k * 5, none⟩), .pointer (some ⟨g.r, 0, none⟩), .int .i64 (k : Nat)]
def spotAt (G : List Gd) (ns : List Nat) (i : Nat) : List Value := [spotV (G.getD ((spotsL ns 0).getD i (0, 0)).1 default) ((spotsL ns 0).getD i (0, 0)).2]
theorem p_spots1 {rl : Nat} {lv : Value} {G : List Gd} {ns : List Nat} (hG : G.length ≤ 1000) (hns : ns.length = G.length) (hN : ∀ n ∈ ns, n ≤ 100000) (hv : ∀ (j : Nat) (g : Gd) (n : Nat), G[j]? = some g → ns[j]? = some n → SlV g.v n) :
    IterSpec Tryz.prog 68 [.pointer (some ⟨rl, 0, none⟩)] [pt rl 26 [lv], Sl 43 1 G.length lv (G.map fun g => Value.pointer (some ⟨g.r, 0, none⟩))] (spotsL ns 0).length
      (fun i => [.agg #[.pointer (some ⟨slBase (G.getD ((spotsL ns 0).getD i (0, 0)).1 default).v, ((spotsL ns 0).getD i (0, 0)).2 * 5, none⟩), .pointer (some ⟨(G.getD ((spotsL ns 0).getD i (0, 0)).1 default).r, 0, none⟩), .int .i64 (((spotsL ns 0).getD i (0, 0)).2 : Nat)]]) (HeadsRd G) := by
 refine iter_of heads_stars fun lp A X hQ hy => ?_
 have hlen : (spotsL ns 0).length = offL ns G.length := by rw [spots_length, hns]
 dsimp only [List.cons_append, List.nil_append]
 refine spec_of_tr func68 rfl ntmps68 (by kernel_rfl) ?_
 refine tr_seq (tr_region (trl_val (rv_load isAgg26 rfl (by with_reducible repeat constructor) rfl) ?_))
 refine trl_val (rv_len_sl runUnderlying26 rfl (by with_reducible repeat constructor)) ?_
 refine tmv rfl (trl_nil (tr_block (tr_while (α := Nat) (0) (fun j => G.length - j) (fun j => [(0, .func (.yield lp) #[] #[]), (6, lv), (7, .int .i64 (G.length : Nat)), (8, .int .i64 (j : Nat))]) (fun j => [pure' (j ≤ G.length), pt rl 26 [lv], Sl 43 1 G.length lv (G.map fun g => Value.pointer (some ⟨g.r, 0, none⟩)), A (offL ns j)]) (ks := [0,6,7,8]) (.cons rfl (.cons rfl (.cons rfl (.cons rfl .nil)))) (holds_pure (Nat.zero_le _) (holds_eq (As' := [_, _, A 0]) (holds_of_picks (by with_reducible repeat constructor)) (by cases ns <;> rfl))) ?_)))
 intro j base ih0
 refine Tr.pure fun hj => ?_
 refine tr_seq (tr_region (trl_pv (pv_lss rfl rfl) (trl_nil (tr_seq (tr_if rfl (fun h0 => ?_) (fun h0 => ?_))))))
 ·refine tr_skip (tr_seq (tr_block (tr_seq ?_)))
  obtain ⟨g, hg⟩ := get_some (l := G) (i := j) (by omega)
  obtain ⟨n, hn⟩ := get_some (l := ns) (i := j) (by omega)
  have hnn := hN n (List.mem_of_getElem? hn)
  have hgv := hv j g n hg hn
  have hos := off_succ hn
  have hol := off_le ns (j + 1)
  rw [hns, ← hlen] at hol
  refine tr_region (trl_val (rv_indexAddr_sl runUnderlying26 sizeOf43 rfl rfl (by with_reducible repeat constructor) (by omega) (by omega)) ?_)
  refine trl_val (rv_load_sl isAgg43 rfl (by with_reducible repeat constructor) (show (G.map fun g => Value.pointer (some ⟨g.r, 0, none⟩))[((j : Nat) : Int).toNat * 1]? = some (.pointer (some ⟨g.r, 0, none⟩)) from by simp [hg])) ?_
  refine tas rfl (trl_nil (tr_seq (tr_region (tmv rfl (tnc rfl (trl_pv (pv_fieldAddr runUnderlying118 rfl sizeOf116 rfl rfl) (trl_pv (pv_fieldAddr runUnderlying116 rfl sizeOf114 rfl rfl) (trl_val (rv_load_rd isAgg114 rfl (Rd.at (by with_reducible repeat constructor) (hQ _ (by omega) j g hg))) ?_))))))))
  refine trl_pv (pv_len_v runUnderlying114 rfl hgv) (tmv rfl (trl_nil (tr_keep (ks := [0,4,6,7,8,17,18]) (.cons rfl (.cons rfl (.cons rfl (.cons rfl (.cons rfl (.cons rfl (.cons rfl .nil))))))) fun base => ?_)))
  refine tr_block (tr_while (α := Nat) (0) (fun k => n - k) (fun k => [(0, .func (.yield lp) #[] #[]), (4, .pointer (some ⟨g.r, 0, none⟩)), (6, lv), (7, .int .i64 (G.length : Nat)), (8, .int .i64 (j : Nat)), (17, .int .i64 (n : Nat)), (18, .int .i64 (k : Nat))]) (fun k => [pure' (k ≤ n), pt rl 26 [lv], Sl 43 1 G.length lv (G.map fun g => Value.pointer (some ⟨g.r, 0, none⟩)), A (offL ns j + k)]) (ks := [0,4,6,7,8,17,18]) (.cons rfl (.cons rfl (.cons rfl (.cons rfl (.cons rfl (.cons rfl (.cons rfl .nil))))))) (holds_pure (Nat.zero_le _) (by dsimp only [Nat.add_zero]; exact holds_of_picks (by with_reducible repeat constructor))) ?_)
  intro k base ih1
  refine Tr.pure fun hk => ?_
  refine tr_seq (tr_region (trl_pv (pv_lss rfl rfl) (trl_nil (tr_seq (tr_if rfl (fun h1 => ?_) (fun h1 => ?_))))))
  ·refine tr_skip (tr_seq (tr_block (tr_seq (tr_region (tmv rfl (tas rfl (trl_nil (tr_seq ?_))))))))
   have hsp := spots_get (j0 := 0) hn (show k < n by omega)
   rw [Nat.zero_add] at hsp
   have hY := hy (offL ns j + k) (by omega)
   rw [List.getD_eq_getElem?_getD (l := spotsL ns 0), hsp] at hY
   dsimp only [Option.getD_some] at hY
   rw [List.getD_eq_getElem?_getD (l := G), hg] at hY
   dsimp only [Option.getD_some] at hY
   rw [Nat.add_assoc] at hY
   refine tr_region (tmv rfl (tmv rfl (tnc rfl (trl_pv (pv_fieldAddr runUnderlying118 rfl sizeOf116 rfl rfl) (trl_pv (pv_fieldAddr runUnderlying116 rfl sizeOf114 rfl rfl) (trl_val (rv_load_rd isAgg114 rfl (Rd.at (by with_reducible repeat constructor) (hQ _ (by omega) j g hg))) ?_))))))
   refine tmv rfl (trl_pv (pv_conv (pv_indexAddr_v runUnderlying114 sizeOf69 rfl rfl hgv (by omega) (by omega)) (ptr_eq (b := k * 5) (by omega))) ?_)
   refine tmv rfl (tmv rfl (trl_pv (pv_build (pl := [(0, 1), (1, 1), (2, 1)]) runUnderlying66 zeroValue66 (fun w => by simp [sizeOf3, sizeOf43, sizeOf64]) (by dsimp only [cellsL, List.toList_toArray]) rfl rfl) ?_))
   refine trl_eff (ef_yield rfl rfl (hY) (by with_reducible repeat constructor) fun b => ?_)
   dsimp only [List.cons_append, List.nil_append]
   refine trl_pv (pv_not rfl) (trl_nil (tr_keep (ks := [0,4,6,7,8,17,18,33]) (.cons rfl (.cons rfl (.cons rfl (.cons rfl (.cons rfl (.cons rfl (.cons rfl (.cons rfl .nil)))))))) fun base => ?_))
   refine tr_ifb rfl (fun h2 => ?_) (fun h2 => ?_)
   ·obtain rfl : b = false := by simpa using h2
    refine tr_ret func68 rfl .nil (by kernel_rfl) .nil false rfl trivial (by simp only [Bool.false_eq_true, if_false]; exact holds_of_picks (by with_reducible repeat constructor))
   ·obtain rfl : b = true := by simpa using h2
    refine tr_skip (tr_inBlock (tr_region (trl_pv (pv_addI rfl rfl (by omega) (by omega)) ?_)))
    refine tmv rfl (trl_nil (tr_again ih1 (k + 1) (by first | omega | (dsimp only; omega)) (.cons rfl (.cons rfl (.cons rfl (.cons rfl (.cons rfl (.cons rfl (.cons (keep_int rfl (by omega)) .nil))))))) (by simp only [if_true]; exact holds_pure (by omega) (holds_of_picks (by with_reducible repeat constructor)))))
  ·refine tr_exit rfl (tr_inBlock (tr_region (trl_pv (pv_addI rfl rfl (by omega) (by omega)) ?_)))
   refine tmv rfl (trl_nil ?_)
   obtain rfl : k = n := by omega
   rw [← hos]
   refine tr_again ih0 (j + 1) (by first | omega | (dsimp only; omega)) (.cons rfl (.cons rfl (.cons rfl (.cons (keep_int rfl (by omega)) .nil)))) (holds_pure (by omega) (holds_of_picks (by with_reducible repeat constructor)))
 ·refine tr_exit rfl ?_
  obtain rfl : j = G.length := by omega
  rw [← hlen]
  refine tr_end func68 rfl .nil (by kernel_rfl) .nil true rfl trivial (by simp only [if_true]; exact holds_of_picks (by with_reducible repeat constructor))
theorem p_fresh {g : Gd} {bd : Bd} {s : Bs} {k count layer : Nat} (hs : bd.ss[k]? = some s) (hn : s.b.ps.length ≤ 100) (hc : 1 ≤ count) (hc2 : count ≤ 100) (hl : layer + 1 ≤ 1000) : Spec Tryz.prog 24 [.agg #[.pointer (some ⟨slBase g.v, k * 5, none⟩), .pointer (some ⟨g.r, 0, none⟩), .int .i64 (k : Nat)], .int .i64 (count : Nat), .int .i64 (layer : Nat)] [PB g bd]
    (fun _ : Unit => ⟨.int .i64 (passesF s.b.ps.length count (layer + 1) : Nat), True, [PB g bd]⟩) := by
 refine spec_of_tr func24 rfl ntmps24 (by kernel_rfl) ?_
 refine Tr.unfold pb_open (by with_reducible repeat constructor) fun _ hgl => ?_
 dsimp only [List.cons_append, List.nil_append]
 have hkk := (List.getElem?_eq_some_iff.1 hs).1
 obtain ⟨gg, hgg⟩ := get_some (l := g.gs) (i := k) (by omega)
 refine Tr.unfold (sls_open hgg hs) (by with_reducible repeat constructor) fun _ _ => ?_
 dsimp only [List.cons_append, List.nil_append]
 refine Tr.unfold bp_open (by exact .here) fun _ _ => ?_
 dsimp only [List.cons_append, List.nil_append]
 refine tr_seq (tr_region (trl_eff (ef_box rfl (by dsimp only [cellsL, List.toList_toArray]) fun r3 => ?_)))
 refine tas rfl (trl_nil (tr_seq (tr_region (trl_pv (pv_fieldAddr runUnderlying66 rfl sizeOf64 rfl rfl) (trl_val (rv_load isAgg64 rfl (by with_reducible repeat constructor) rfl) ?_)))))
 refine tnc rfl (trl_pv (pv_fieldAddr runUnderlying69 rfl sizeOf58 rfl rfl) (trl_pv (pv_fieldAddr runUnderlying58 rfl sizeOf56 rfl rfl) (trl_val (rv_load_sl isAgg56 rfl (by with_reducible repeat constructor) (sc_get hs hgg rfl)) ?_)))
 refine trl_val (rv_len_sl runUnderlying56 rfl (by with_reducible repeat constructor)) ?_
 refine tmv rfl (tmv rfl (trl_pv (pv_conv (pv_addI rfl rfl (by omega) (by omega)) (congrArg (Value.int .i64) (show (layer : Int) + 1 = ((layer + 1 : Nat) : Int) from by omega))) ?_))
 refine trl_eff (ef_call rfl rfl call70 (p_passes (total := s.b.ps.length) (count := count) (l := layer + 1) hn hc hc2 hl) (by with_reducible repeat constructor) fun x17 hx17 => ?_)
 dsimp only [List.cons_append, List.nil_append]
 refine tas rfl (trl_nil (tr_keep (ks := [6]) (.cons rfl .nil) fun base => ?_))
 refine Tr.fold (bp_fold (tp := 142) (tb := 5) (g := gg) (s := s)) (by with_reducible repeat constructor) ?_
 refine Tr.fold (sls_fold (A := BP 142 5) hgg hs) (by with_reducible repeat constructor) ?_
 refine Tr.fold (pb_fold (g := g) (bd := bd) hgl rfl rfl rfl rfl rfl rfl rfl rfl rfl rfl rfl rfl) (by with_reducible repeat constructor) ?_
 refine tr_ret func24 rfl .nil (by kernel_rfl) (.tmp rfl .nil) () rfl trivial (holds_of_picks (by with_reducible repeat constructor))
theorem p_ends_of {g : Gd} {bd : Bd} {s : Bs} {k : Nat} (hs : bd.ss[k]? = some s) (hn : s.b.ps.length ≤ 100) : Spec Tryz.prog 76 [.agg #[.pointer (some ⟨slBase g.v, k * 5, none⟩), .pointer (some ⟨g.r, 0, none⟩), .int .i64 (k : Nat)]] [PB g bd]
    (fun v : Value => ⟨v, one? v = true, [PB g bd, Sl 3 1 (endsOf s.b).length v (i64s (endsOf s.b))]⟩) := by
 refine spec_of_tr func76 rfl ntmps76 (by kernel_rfl) ?_
 refine Tr.unfold pb_open (by with_reducible repeat constructor) fun _ hgl => ?_
 dsimp only [List.cons_append, List.nil_append]
 have hkk := (List.getElem?_eq_some_iff.1 hs).1
 obtain ⟨gg, hgg⟩ := get_some (l := g.gs) (i := k) (by omega)
 refine Tr.unfold (sls_open hgg hs) (by with_reducible repeat constructor) fun _ _ => ?_
 dsimp only [List.cons_append, List.nil_append]
 refine Tr.unfold bp_open (by exact .here) fun _ _ => ?_
 dsimp only [List.cons_append, List.nil_append]
 refine tr_seq (tr_region (trl_eff (ef_box rfl (by dsimp only [cellsL, List.toList_toArray]) fun r1 => ?_)))
 refine tas rfl (trl_nil (tr_seq (tr_region (trl_pv (pv_fieldAddr runUnderlying66 rfl sizeOf64 rfl rfl) (trl_val (rv_load isAgg64 rfl (by with_reducible repeat constructor) rfl) ?_)))))
 refine tnc rfl (trl_pv (pv_fieldAddr runUnderlying69 rfl sizeOf58 rfl rfl) (trl_pv (pv_fieldAddr runUnderlying58 rfl sizeOf56 rfl rfl) (trl_val (rv_load_sl isAgg56 rfl (by with_reducible repeat constructor) (sc_get hs hgg rfl)) ?_)))
 refine trl_val (rv_len_sl runUnderlying56 rfl (by with_reducible repeat constructor)) ?_
 refine trl_eff (ef_make (s.b.ps.length) runUnderlying38 typeInfo3 sizeOf3 zeroValue3 rfl (by dsimp only [cellsL, List.toList_toArray]) rfl rfl (by simp) (by rw [show Tryz.t3.bytes = 8 from rfl]; omega) fun r13 => ?_)
 refine tas rfl (trl_nil ?_)
 rw [i64_zeros]
 refine Tr.fold (sl_of_pt (e := 3) (p := r13) (cells := i64s (noughts s.b.ps.length)) (n := s.b.ps.length) (sz := 1) (by simp [noughts])) (by with_reducible repeat constructor) ?_
 refine tr_keep (ks := [1,3]) (.cons rfl (.cons rfl .nil)) fun base => ?_
 refine tr_seq (tr_seq (tr_region (trl_pv (pv_fieldAddr runUnderlying66 rfl sizeOf64 rfl rfl) (trl_val (rv_load isAgg64 rfl (by with_reducible repeat constructor) rfl) ?_))))
 refine tnc rfl (trl_pv (pv_fieldAddr runUnderlying69 rfl sizeOf58 rfl rfl) (trl_pv (pv_fieldAddr runUnderlying58 rfl sizeOf56 rfl rfl) (trl_val (rv_load_sl isAgg56 rfl (by with_reducible repeat constructor) (sc_get hs hgg rfl)) ?_)))
 refine trl_val (rv_len_sl runUnderlying56 rfl (by with_reducible repeat constructor)) ?_
 refine tmv rfl (trl_nil (tr_block (tr_while (α := Nat) (0) (fun i => s.b.ps.length - i) (fun i => [(3, .slice (some ⟨r13, 0, none⟩) s.b.ps.length s.b.ps.length), (19, gg.1), (20, .int .i64 (s.b.ps.length : Nat)), (21, .int .i64 (i : Nat))]) (fun i => [pure' (i ≤ s.b.ps.length), Sl 3 1 s.b.ps.length (.slice (some ⟨r13, 0, none⟩) s.b.ps.length s.b.ps.length) (i64s (partN (endsOf s.b) i)), pt g.r 118 [g.v, .int .i64 bd.planes, .pointer (some ⟨g.rF, 0, none⟩), .pointer (some ⟨g.rZ, 0, none⟩), .bool bd.set], Sl 69 5 bd.ss.length g.v (scells bd.ss g.gs), Sl 142 2 s.b.ps.length gg.1 (passC s.b.ps), Sl 5 1 s.b.bys.length gg.2 (u8s s.b.bys), SLs (BP 142 5) (g.gs.eraseIdx k) (bd.ss.eraseIdx k), PT g.rF bd.sh bd.first, PT g.rZ bd.sh bd.zeros]) (ks := [3,19,20,21]) (.cons rfl (.cons rfl (.cons rfl (.cons rfl .nil)))) (holds_pure (Nat.zero_le _) (by rw [partN_zero, endsOf_length]; exact holds_of_picks (by with_reducible repeat constructor))) ?_)))
 intro i base ih0
 refine Tr.pure fun hi => ?_
 refine tr_seq (tr_region (trl_pv (pv_lss rfl rfl) (trl_nil (tr_seq (tr_if rfl (fun h0 => ?_) (fun h0 => ?_))))))
 ·refine tr_skip (tr_seq (tr_block (tr_seq ?_)))
  obtain ⟨x, hx⟩ := get_some (l := s.b.ps) (i := i) (by omega)
  have hex : (endsOf s.b)[i]? = some x.1 := by simp [endsOf, hx]
  refine tr_region (tmv rfl (trl_val (rv_indexAddr_sl runUnderlying56 sizeOf142 rfl rfl (by with_reducible repeat constructor) (by omega) (by omega)) ?_))
  refine trl_val (rv_load_agg_sl (us := [.int .i64 x.1, .bool x.2]) isAgg142 sizeOf142 rfl (by with_reducible repeat constructor) rfl (pc_part (i := i) hx) (by omega)) ?_
  refine trl_eff (ef_alloc zeroValue142 (by dsimp only [cellsL, List.toList_toArray]) fun r5 => ?_)
  refine tas rfl (trl_eff0 (ef_store_agg sizeOf142 rfl rfl rfl (by with_reducible repeat constructor) rfl ?_))
  refine trl_nil (tr_region (tmv rfl (tmv rfl (trl_pv (pv_fieldAddr runUnderlying142 rfl sizeOf3 rfl rfl) (trl_val (rv_load isAgg3 rfl (by with_reducible repeat constructor) rfl) ?_)))))
  refine trl_val (rv_indexAddr_sl runUnderlying38 sizeOf3 rfl rfl (by with_reducible repeat constructor) (by omega) (by omega)) ?_
  refine trl_eff0 (ef_store_sl sizeOf3 rfl rfl (by first | rfl | assumption) (by with_reducible repeat constructor) (by rw [i64s_length, partN_length (by rw [endsOf_length]; omega), endsOf_length]; omega) (i64s_part (i := i) hex) ?_)
  refine trl_nil (tr_keep (ks := [3,19,20,21]) (.cons rfl (.cons rfl (.cons rfl (.cons rfl .nil)))) fun base => ?_)
  refine tr_inBlock (tr_region (trl_pv (pv_addI rfl rfl (by omega) (by omega)) ?_))
  refine tmv rfl (trl_nil (tr_again ih0 (i + 1) (by first | omega | (dsimp only; omega)) (.cons rfl (.cons rfl (.cons rfl (.cons (keep_int rfl (by omega)) .nil)))) (holds_pure (by omega) (holds_of_picks (by with_reducible repeat constructor)))))
 ·refine tr_exit rfl (tr_seq (tr_region (tmv rfl (tas rfl (trl_nil ?_)))))
  obtain rfl : i = s.b.ps.length := by omega
  refine Tr.fold (bp_fold (tp := 142) (tb := 5) (g := gg) (s := s)) (by with_reducible repeat constructor) ?_
  refine Tr.fold (sls_fold (A := BP 142 5) hgg hs) (by with_reducible repeat constructor) ?_
  refine Tr.fold (pb_fold (g := g) (bd := bd) hgl rfl rfl rfl rfl rfl rfl rfl rfl rfl rfl rfl rfl) (by with_reducible repeat constructor) ?_
  refine tr_ret func76 rfl .nil (by kernel_rfl) (.tmp rfl .nil) (.slice (some ⟨r13, 0, none⟩) s.b.ps.length s.b.ps.length) rfl rfl (by rw [show i64s (partN (endsOf s.b) s.b.ps.length) = i64s (endsOf s.b) from by rw [← endsOf_length, partN_all], endsOf_length]; exact holds_of_picks (by with_reducible repeat constructor))
end Go.Proofs
