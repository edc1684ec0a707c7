/- Contracts of functions that the law reaches, in every memory (part Tree3). -/
import Derived.Test.YtbmfgngjcpmjeaaGreatTree2
import Derived.Test.YtbmfgngjcpmjeaaGreatPlainB
set_option linter.unusedVariables false
set_option linter.unusedSimpArgs false
set_option maxRecDepth 10000
namespace Go.Proofs
open Go.Eng Tryz
theorem tree_least {r : Nat} {sh : List (Nat × Nat)} {ps : List Nat} {v : Value} {T : List Nd} {i w h p x y : Nat} (hF : Fine sh) (hl : ps.length = sh.length) (hT : T.length = total sh) (hs : sh[i]? = some (w, h)) (hp : ps[i]? = some p) (hx : 2 * x < w) (hy : 2 * y < h) :
    Spec Tryz.prog 107 [.pointer (some ⟨r, 0, none⟩), .int .i64 ((i + 1 : Nat) : Int), .int .i64 (x : Nat), .int .i64 (y : Nat)] [pt r 178 [v], Sl 181 3 sh.length v (lvCells sh ps), NS 184 sh ps T]
    (fun _ : Unit => ⟨.int .i64 (leastOf w h (nsOf sh i (w, h) T) x y), True, [pt r 178 [v], Sl 181 3 sh.length v (lvCells sh ps), NS 184 sh ps T]⟩) := by
 refine spec_of_tr func107 rfl ntmps107 (by kernel_rfl) ?_
 have hwh := hF.2.2 i (w, h) hs
 dsimp only at hwh
 have hoff := offs_lt hs
 dsimp only at hoff
 have hi := (List.getElem?_eq_some_iff.1 hs).1
 have hlen := hF.2.1
 have hwp : w ≤ w * h := Nat.le_mul_of_pos_right _ (by omega)
 have hhp : h ≤ w * h := Nat.le_mul_of_pos_left _ (by omega)
 refine tr_seq (tr_region (tas rfl (trl_nil (tr_seq (tr_region (tmv rfl (tnc rfl (trl_pv (pv_fieldAddr runUnderlying178 rfl sizeOf176 rfl rfl) (trl_val (rv_load isAgg176 rfl (by with_reducible repeat constructor) rfl) ?_)))))))))
 refine tmv rfl (trl_pv (pv_conv (pv_subI rfl rfl (by omega) (by omega)) (congrArg (Value.int .i64) (show ((i + 1 : Nat) : Int) - 1 = (i : Int) from by omega))) ?_)
 refine trl_val (rv_indexAddr_sl runUnderlying176 sizeOf181 rfl rfl (by with_reducible repeat constructor) (by omega) (by omega)) ?_
 refine trl_val (rv_load_agg_sl (us := [.int .i64 (w : Nat), .int .i64 (h : Nat), .slice (some ⟨p, 0, none⟩) (w * h) (w * h)]) isAgg181 sizeOf181 rfl (by with_reducible repeat constructor) rfl (lv_part hs hp) (by omega)) ?_
 refine trl_eff (ef_alloc zeroValue181 (by dsimp only [cellsL, List.toList_toArray]) fun r9 => ?_)
 refine trl_eff0 (ef_store_agg sizeOf181 rfl rfl rfl (by with_reducible repeat constructor) rfl ?_)
 refine trl_nil (tr_keep (ks := [2,3,9]) (.cons rfl (.cons rfl (.cons rfl .nil))) fun base => ?_)
 refine tr_seq ?_
 have hidx0 := idx_lt hx hy
 obtain ⟨nd0, hnd0⟩ := get_some (l := T) (i := offs sh i + (2 * y * w + 2 * x)) (by omega)
 refine tr_region (trl_val (rv_load_agg isAgg181 sizeOf181 rfl (by with_reducible repeat constructor) rfl) ?_)
 refine tmv rfl (trl_pv (pv_conv (pv_mulI rfl rfl (by omega) (by omega)) (congrArg (Value.int .i64) (show 2 * (x : Int) = ((2 * x : Nat) : Int) from by omega))) ?_)
 refine tmv rfl (trl_pv (pv_conv (pv_mulI rfl rfl (by omega) (by omega)) (congrArg (Value.int .i64) (show 2 * (y : Int) = ((2 * y : Nat) : Int) from by omega))) ?_)
 refine trl_eff (ef_call rfl rfl call108 (grid_at (w := w) (h := h) (p := p) (n := w * h) (x := 2 * x) (y := 2 * y) hidx0 hwh) (by with_reducible repeat constructor) fun x26 hx26 => ?_)
 dsimp only [List.cons_append, List.nil_append]
 refine tnc rfl (trl_pv (pv_fieldAddr runUnderlying184 rfl sizeOf3 rfl rfl) (trl_val (rv_load_ns isAgg3 rfl (by with_reducible repeat constructor) hs hp hidx0 hnd0 rfl) ?_))
 refine tas rfl (trl_nil (tr_keep (ks := [2,3,9,10]) (.cons rfl (.cons rfl (.cons rfl (.cons rfl .nil)))) fun base => ?_))
 refine tr_seq (tr_seq (tr_region (tmv rfl (trl_nil (tr_block (tr_while (α := Nat) (0) (fun d => 2 - d) (fun d => [(2, .int .i64 (x : Nat)), (3, .int .i64 (y : Nat)), (9, .pointer (some ⟨r9, 0, none⟩)), (10, .int .i64 (leastUp w h (nsOf sh i (w, h) T) x y (2 * d))), (30, .int .i64 (d : Nat))]) (fun d => [pure' (d ≤ 2), pt r 178 [v], Sl 181 3 sh.length v (lvCells sh ps), NS 184 sh ps T, pt r9 181 [.int .i64 (w : Nat), .int .i64 (h : Nat), .slice (some ⟨p, 0, none⟩) (w * h) (w * h)]]) (ks := [2,3,9,10,30]) (.cons rfl (.cons rfl (.cons rfl (.cons (keep_int rfl (by rw [show leastUp w h (nsOf sh i (w, h) T) x y (2 * 0) = _ from (nsOf_get (s := (w, h)) hidx0 hnd0)])) (.cons rfl .nil))))) (holds_pure (by omega) (holds_of_picks (by with_reducible repeat constructor))) ?_))))))
 intro dy base ih0
 refine Tr.pure fun hd => ?_
 refine tr_seq (tr_region (trl_pv (pv_lss rfl rfl) (trl_nil (tr_seq (tr_if rfl (fun h0 => ?_) (fun h0 => ?_))))))
 ·refine tr_skip (tr_seq (tr_block (tr_seq (tr_region (tmv rfl (tas rfl (trl_nil (tr_seq (tr_region (tmv rfl (trl_nil (tr_block (tr_while (α := Nat) (0) (fun d => 2 - d) (fun d => [(2, .int .i64 (x : Nat)), (3, .int .i64 (y : Nat)), (9, .pointer (some ⟨r9, 0, none⟩)), (10, .int .i64 (leastUp w h (nsOf sh i (w, h) T) x y (2 * dy + d))), (11, .int .i64 (dy : Nat)), (30, .int .i64 (dy : Nat)), (33, .int .i64 (d : Nat))]) (fun d => [pure' (d ≤ 2), pt r 178 [v], Sl 181 3 sh.length v (lvCells sh ps), NS 184 sh ps T, pt r9 181 [.int .i64 (w : Nat), .int .i64 (h : Nat), .slice (some ⟨p, 0, none⟩) (w * h) (w * h)]]) (ks := [2,3,9,10,11,30,33]) (.cons rfl (.cons rfl (.cons rfl (.cons rfl (.cons rfl (.cons rfl (.cons rfl .nil))))))) (holds_pure (by omega) (holds_of_picks (by with_reducible repeat constructor))) ?_)))))))))))))
  intro dx base ih1
  refine Tr.pure fun hd2 => ?_
  refine tr_seq (tr_region (trl_pv (pv_lss rfl rfl) (trl_nil (tr_seq (tr_if rfl (fun h1 => ?_) (fun h1 => ?_))))))
  ·refine tr_skip (tr_seq (tr_block (tr_seq (tr_region (tmv rfl (tas rfl (trl_nil (tr_seq (tr_region (tmv rfl (trl_pv (pv_mulI rfl rfl (by omega) (by omega)) ?_)))))))))))
   refine tmv rfl (trl_pv (pv_addI rfl rfl (by omega) (by omega)) ?_)
   refine trl_pv (pv_fieldAddr runUnderlying181 rfl sizeOf3 rfl rfl) (trl_val (rv_load isAgg3 rfl (by with_reducible repeat constructor) rfl) ?_)
   refine trl_pv (pv_lss rfl rfl) (tmv rfl (trl_split 7 rfl (fun g43 => ?_) (fun g43 => ?_)))
   ·refine trl_pvg rfl (decide_eq_true g43) (pv_move rfl) (trl_pvg rfl (decide_eq_true g43) (pv_mulI rfl rfl (by omega) (by omega)) ?_)
    refine trl_pvg rfl (decide_eq_true g43) (pv_move rfl) (trl_pvg rfl (decide_eq_true g43) (pv_addI rfl rfl (by omega) (by omega)) ?_)
    refine trl_pvg rfl (decide_eq_true g43) (pv_fieldAddr runUnderlying181 rfl sizeOf3 rfl rfl) (trl_valg rfl (decide_eq_true g43) (rv_load isAgg3 rfl (by with_reducible repeat constructor) rfl) ?_)
    refine trl_pvg rfl (decide_eq_true g43) (pv_lss rfl rfl) (trl_pv (pv_pick_t rfl (decide_eq_true g43) rfl) (trl_nil (tr_keep (ks := [2,3,9,10,11,12,30,33,51]) (.cons rfl (.cons rfl (.cons rfl (.cons rfl (.cons rfl (.cons rfl (.cons rfl (.cons rfl (.cons rfl .nil))))))))) fun base => ?_)))
    refine tr_if rfl (fun h2 => ?_) (fun h2 => ?_)
    ·have hx1 : 2 * x + dx < w := by omega
     have hy1 : 2 * y + dy < h := by omega
     have hidx := idx_lt hx1 hy1
     obtain ⟨nd, hnd⟩ := get_some (l := T) (i := offs sh i + ((2 * y + dy) * w + (2 * x + dx))) (by omega)
     refine tr_region (tmv rfl (trl_val (rv_load_agg isAgg181 sizeOf181 rfl (by with_reducible repeat constructor) rfl) ?_))
     refine tmv rfl (trl_pv (pv_mulI rfl rfl (by omega) (by omega)) ?_)
     refine tmv rfl (trl_pv (pv_conv (pv_addI rfl rfl (by omega) (by omega)) (congrArg (Value.int .i64) (show 2 * (x : Int) + (dx : Int) = ((2 * x + dx : Nat) : Int) from by omega))) ?_)
     refine tmv rfl (trl_pv (pv_mulI rfl rfl (by omega) (by omega)) ?_)
     refine tmv rfl (trl_pv (pv_conv (pv_addI rfl rfl (by omega) (by omega)) (congrArg (Value.int .i64) (show 2 * (y : Int) + (dy : Int) = ((2 * y + dy : Nat) : Int) from by omega))) ?_)
     refine trl_eff (ef_call rfl rfl call108 (grid_at (w := w) (h := h) (p := p) (n := w * h) (x := 2 * x + dx) (y := 2 * y + dy) hidx hwh) (by with_reducible repeat constructor) fun x62 hx62 => ?_)
     dsimp only [List.cons_append, List.nil_append]
     refine tnc rfl (trl_pv (pv_fieldAddr runUnderlying184 rfl sizeOf3 rfl rfl) (trl_val (rv_load_ns isAgg3 rfl (by with_reducible repeat constructor) hs hp hidx hnd rfl) ?_))
     refine trl_pv (pv_minI rfl rfl) (tas rfl (trl_nil (tr_keep (ks := [2,3,9,10,11,30,33]) (.cons rfl (.cons rfl (.cons rfl (.cons rfl (.cons rfl (.cons rfl (.cons rfl .nil))))))) fun base => ?_)))
     refine tr_inBlock (tr_region (trl_pv (pv_addI rfl rfl (by omega) (by omega)) ?_))
     refine tmv rfl (trl_nil (tr_again ih1 (dx + 1) (by first | omega | (dsimp only; omega)) (.cons rfl (.cons rfl (.cons rfl (.cons (keep_int rfl (by rw [← Nat.add_assoc, least_next w h _ x y dx dy (by omega) (by omega), leastStep, if_pos ⟨hx1, hy1⟩, nsOf_get (s := (w, h)) hidx hnd])) (.cons rfl (.cons rfl (.cons (keep_int rfl (by omega)) .nil))))))) (holds_pure (by omega) (holds_of_picks (by with_reducible repeat constructor)))))
    ·refine tr_skip (tr_inBlock (tr_region (trl_pv (pv_addI rfl rfl (by omega) (by omega)) ?_)))
     refine tmv rfl (trl_nil (tr_again ih1 (dx + 1) (by first | omega | (dsimp only; omega)) (.cons rfl (.cons rfl (.cons rfl (.cons (keep_int rfl (by rw [← Nat.add_assoc, least_next w h _ x y dx dy (by omega) (by omega), leastStep, if_neg (by dsimp only; omega)])) (.cons rfl (.cons rfl (.cons (keep_int rfl (by omega)) .nil))))))) (holds_pure (by omega) (holds_of_picks (by with_reducible repeat constructor)))))
   ·refine trl_not rfl (decide_eq_false g43) ?_
    refine trl_not rfl (decide_eq_false g43) ?_
    refine trl_not rfl (decide_eq_false g43) ?_
    refine trl_not rfl (decide_eq_false g43) ?_
    refine trl_not rfl (decide_eq_false g43) ?_
    refine trl_not rfl (decide_eq_false g43) ?_
    refine trl_not rfl (decide_eq_false g43) ?_
    refine trl_pv (pv_pick_f rfl (decide_eq_false g43) rfl) (trl_nil (tr_keep (ks := [2,3,9,10,11,12,30,33,51]) (.cons rfl (.cons rfl (.cons rfl (.cons rfl (.cons rfl (.cons rfl (.cons rfl (.cons rfl (.cons rfl .nil))))))))) fun base => ?_))
    refine tr_else rfl rfl ?_
    refine tr_skip (tr_inBlock (tr_region (trl_pv (pv_addI rfl rfl (by omega) (by omega)) ?_)))
    refine tmv rfl (trl_nil (tr_again ih1 (dx + 1) (by first | omega | (dsimp only; omega)) (.cons rfl (.cons rfl (.cons rfl (.cons (keep_int rfl (by rw [← Nat.add_assoc, least_next w h _ x y dx dy (by omega) (by omega), leastStep, if_neg (by dsimp only; omega)])) (.cons rfl (.cons rfl (.cons (keep_int rfl (by omega)) .nil))))))) (holds_pure (by omega) (holds_of_picks (by with_reducible repeat constructor)))))
  ·refine tr_exit rfl (tr_inBlock (tr_region (trl_pv (pv_addI rfl rfl (by omega) (by omega)) ?_)))
   refine tmv rfl (trl_nil (tr_again ih0 (dy + 1) (by first | omega | (dsimp only; omega)) (.cons rfl (.cons rfl (.cons rfl (.cons (keep_int rfl (by rw [show 2 * (dy + 1) = 2 * dy + dx by omega])) (.cons (keep_int rfl (by omega)) .nil))))) (holds_pure (by omega) (holds_of_picks (by with_reducible repeat constructor)))))
 ·refine tr_exit rfl (tr_seq (tr_region (tmv rfl (tas rfl (trl_nil (tr_keep (ks := [8]) (.cons rfl .nil) fun base => ?_))))))
  refine tr_ret func107 rfl .nil (by kernel_rfl) (.tmp rfl .nil) () (by have e : dy = 2 := (by omega); subst e; rfl) trivial (holds_of_picks (by with_reducible repeat constructor))
theorem tree_set {r : Nat} {sh : List (Nat × Nat)} {nums : List Int} {k w0 h0 : Nat} {n : Int} (hF : Fine sh) (hs0 : sh[0]? = some (w0, h0)) (hn : nums.length = w0 * h0) (hk : k < w0 * h0) :
    Spec Tryz.prog 69 [.pointer (some ⟨r, 0, none⟩), .int .i64 (k : Nat), .int .i64 n] [PT r sh (mk0 (mins sh nums))]
    (fun _ : Unit => ⟨.tuple #[], True, [PT r sh (mk0 (mins sh (nums.set k n)))]⟩) := by
 refine spec_of_tr func69 rfl ntmps69 (by kernel_rfl) ?_
 refine Tr.unfold pt_open .here fun ⟨v, ps⟩ ⟨ho, hl, hT⟩ => ?_
 dsimp only [List.cons_append, List.nil_append] at ho hl hT ⊢
 have hlen := hF.2.1
 have hwl : (tway sh (k : Int)).length = sh.length := by rw [tway_some hs0 hk, List.length_reverse, fpath_length]
 have hsl := (List.getElem?_eq_some_iff.1 hs0).1
 obtain ⟨p0, hp0⟩ := get_some (l := ps) (i := 0) (by omega)
 have hw0 := hF.2.2 0 _ hs0
 dsimp only at hw0
 have hpos := halves_pos hF.1 hs0
 dsimp only at hpos
 have hb : ∀ s, sh.head? = some s → nums.length = s.1 * s.2 := by intro s hs; rw [List.head?_eq_getElem?, hs0] at hs; injection hs with hs; subst hs; exact hn
 have ha : ∀ s, sh.head? = some s → (nums.set k n).length = s.1 * s.2 := by intro s hs; rw [List.length_set]; exact hb s hs
 have hml := mins_length sh nums hF.1 hb
 have hoff0 := offs_lt hs0
 rw [offs_zero] at hoff0
 dsimp only at hoff0
 obtain ⟨v0, -, hv0⟩ := mk0_get (l := mins sh nums) (i := offs sh 0 + k) (by rw [offs_zero]; omega)
 refine tr_seq (tr_seq (tr_region (tmv rfl (tmv rfl (trl_eff (ef_call rfl rfl call106 (tree_way (k := (k : Int)) hF hl) (by with_reducible repeat constructor) fun v12 ho12 => ?_))))))
 dsimp only [List.cons_append, List.nil_append]
 refine trl_val (rv_len_sl runUnderlying192 rfl (by with_reducible repeat constructor)) ?_
 refine trl_pv (pv_eql rfl rfl) (trl_nil (tr_else rfl (decide_eq_false (by omega)) ?_))
 refine tr_skip (tr_seq (tr_region (tmv rfl (tnc rfl (trl_pv (pv_fieldAddr runUnderlying178 rfl sizeOf176 rfl rfl) (trl_val (rv_load isAgg176 rfl (by with_reducible repeat constructor) rfl) ?_))))))
 refine trl_val (rv_indexAddr_sl runUnderlying176 sizeOf181 rfl rfl (by with_reducible repeat constructor) (by omega) (by omega)) ?_
 refine trl_val (rv_load_agg_sl (us := [.int .i64 (w0 : Nat), .int .i64 (h0 : Nat), .slice (some ⟨p0, 0, none⟩) (w0 * h0) (w0 * h0)]) isAgg181 sizeOf181 rfl (by with_reducible repeat constructor) rfl (lv_part hs0 hp0) (by omega)) ?_
 refine trl_eff (ef_alloc zeroValue181 (by dsimp only [cellsL, List.toList_toArray]) fun r6 => ?_)
 refine trl_eff0 (ef_store_agg sizeOf181 rfl rfl rfl (by with_reducible repeat constructor) rfl ?_)
 refine trl_nil (tr_keep (ks := [0,1,2,6]) (.cons rfl (.cons rfl (.cons rfl (.cons rfl .nil)))) fun base => ?_)
 refine tr_seq (tr_region (trl_pv (pv_fieldAddr runUnderlying181 rfl sizeOf179 rfl rfl) (trl_val (rv_load isAgg179 rfl (by with_reducible repeat constructor) rfl) ?_)))
 refine tmv rfl (tmv rfl (trl_pv (pv_conv (pv_indexAddr runUnderlying179 sizeOf184 rfl rfl (by omega) (by omega)) (ptr_eq (b := k * 3) (by omega))) ?_))
 refine trl_pv (pv_fieldAddr runUnderlying184 rfl sizeOf3 rfl rfl) (trl_eff0 (ef_store_ns sizeOf3 rfl rfl rfl (by with_reducible repeat constructor) ⟨n, 0, false⟩ hs0 hp0 hk hv0 (by decide) rfl ?_))
 refine trl_nil ?_
 rw [mk0_set, ← mix_zero sh (nums.set k n) nums, mix_step hF.1 ha hb hs0 hk (by rw [lev_zero hs0, lev_zero hs0])]
 refine tr_keep (ks := [0,1,6]) (.cons rfl (.cons rfl (.cons rfl .nil))) fun base => ?_
 refine tr_seq (tr_draww (rem := [0,1,2,3,4,5,6,7,8,9]) (by kernel_rfl) (by kernel_rfl) rfl ?_)
 refine twm 0 [3,8,9] rfl (by kernel_rfl) rfl rfl (trw_pure 1 [2,3,8,9] rfl (by kernel_rfl) rfl (pv_fieldAddr runUnderlying181 rfl sizeOf3 rfl rfl) (twm 4 [7,9] rfl (by kernel_rfl) rfl rfl (trw_pure 5 [6,7,9] rfl (by kernel_rfl) rfl (pv_fieldAddr runUnderlying181 rfl sizeOf3 rfl rfl) (trw_read 2 [3,8,9] rfl (by kernel_rfl) rfl (rv_load isAgg3 rfl (by with_reducible repeat constructor) rfl) ?_))))
 refine trw_pure 3 [8,9] rfl (by kernel_rfl) rfl (pv_remI rfl rfl (by omega) (by omega)) ?_
 refine trw_pure 8 [9] rfl (by kernel_rfl) rfl (pv_assign rfl) (trw_read 6 [7,9] rfl (by kernel_rfl) rfl (rv_load isAgg3 rfl (by with_reducible repeat constructor) rfl) ?_)
 refine trw_pure 7 [9] rfl (by kernel_rfl) rfl (pv_quoI rfl rfl (by omega) (by omega) (by omega)) ?_
 refine trw_pure 9 [] rfl (by kernel_rfl) rfl (pv_assign rfl) (trw_nil (tr_keep (ks := [0,7,8]) (.cons rfl (.cons rfl (.cons rfl .nil))) fun base => ?_))
 refine tr_seq (tr_region (tas rfl (trl_nil (tr_block (tr_while (α := Nat) (0) (fun j => sh.length - j) (fun j => [(0, .pointer (some ⟨r, 0, none⟩)), (7, .int .i64 ((k % w0 / 2 ^ j : Nat) : Int)), (8, .int .i64 ((k / w0 / 2 ^ j : Nat) : Int)), (9, .int .i64 ((j + 1 : Nat) : Int))]) (fun j => [pure' (j + 1 ≤ sh.length), pt r 178 [v], Sl 181 3 sh.length v (lvCells sh ps), NS 184 sh ps (mk0 (mix sh (nums.set k n) nums (j + 1)))]) (ks := [0,7,8,9]) (.cons rfl (.cons (keep_int rfl (by simp)) (.cons (keep_int rfl (by simp)) (.cons (keep_int rfl (by simp)) .nil)))) (holds_pure (by omega) (holds_of_picks (by with_reducible repeat constructor))) ?_)))))
 intro j base ih0
 refine Tr.pure fun hj => ?_
 refine tr_seq (tr_seq (tr_region (tmv rfl (tmv rfl (tnc rfl (trl_pv (pv_fieldAddr runUnderlying178 rfl sizeOf176 rfl rfl) (trl_val (rv_load isAgg176 rfl (by with_reducible repeat constructor) rfl) ?_)))))))
 refine trl_val (rv_len_sl runUnderlying176 rfl (by with_reducible repeat constructor)) ?_
 refine trl_pv (pv_lss rfl rfl) (trl_nil (tr_if rfl (fun h1 => ?_) (fun h1 => ?_)))
 ·refine tr_skip (tr_seq (tr_block (tr_seq ?_)))
  obtain ⟨⟨w, h⟩, hs⟩ := get_some (l := sh) (i := j) (by omega)
  obtain ⟨p, hp⟩ := get_some (l := ps) (i := j) (by omega)
  obtain ⟨⟨w', h'⟩, hs'⟩ := get_some (l := sh) (i := j + 1) (by omega)
  obtain ⟨p', hp'⟩ := get_some (l := ps) (i := j + 1) (by omega)
  have hx := way1_xy hF.1 hs0 hk hs
  have hx' := way1_xy hF.1 hs0 hk hs'
  have hnx := halves_next hF.1 hs hs'
  dsimp only at hx hx' hnx
  have hidx := idx_lt hx'.2.1 hx'.2.2
  have hwh := hF.2.2 j _ hs
  have hwh' := hF.2.2 (j + 1) _ hs'
  dsimp only at hwh hwh'
  have hwp : w ≤ w * h := Nat.le_mul_of_pos_right _ (Nat.lt_of_le_of_lt (Nat.zero_le _) hx.2.2)
  have hhp : h ≤ w * h := Nat.le_mul_of_pos_left _ (Nat.lt_of_le_of_lt (Nat.zero_le _) hx.2.1)
  have hq1 : (0 : Int) ≤ ((k % w0 / 2 ^ j : Nat) : Int) := Int.natCast_nonneg _
  have hq2 : (0 : Int) ≤ ((k / w0 / 2 ^ j : Nat) : Int) := Int.natCast_nonneg _
  have hst := lev_step (n := n) hF.1 hs0 hn hk hs hs'
  have hmt := mix_length (j + 1) hF.1 ha hb
  have hoff := offs_lt hs'
  dsimp only at hoff hst
  obtain ⟨v1, -, hv1⟩ := mk0_get (l := mix sh (nums.set k n) nums (j + 1)) (i := offs sh (j + 1) + (k / w0 / 2 ^ (j + 1) * w' + k % w0 / 2 ^ (j + 1))) (by omega)
  refine tr_region (tmv rfl (trl_pv (pv_conv (pv_quoI rfl rfl (by omega) (by omega) (by omega)) (congrArg (Value.int .i64) (half_pow (k % w0) j))) ?_))
  refine tmv rfl (trl_pv (pv_conv (pv_quoI rfl rfl (by omega) (by omega) (by omega)) (congrArg (Value.int .i64) (half_pow (k / w0) j))) ?_)
  refine tas rfl (tas rfl (trl_nil (tr_keep (ks := [0,7,8,9]) (.cons rfl (.cons rfl (.cons rfl (.cons rfl .nil)))) fun base => ?_)))
  refine tr_region (tmv rfl (tnc rfl (trl_pv (pv_fieldAddr runUnderlying178 rfl sizeOf176 rfl rfl) (trl_val (rv_load isAgg176 rfl (by with_reducible repeat constructor) rfl) ?_))))
  refine tmv rfl (trl_val (rv_indexAddr_sl runUnderlying176 sizeOf181 rfl rfl (by with_reducible repeat constructor) (by omega) (by omega)) ?_)
  refine trl_val (rv_load_agg_sl (us := [.int .i64 (w' : Nat), .int .i64 (h' : Nat), .slice (some ⟨p', 0, none⟩) (w' * h') (w' * h')]) isAgg181 sizeOf181 rfl (by with_reducible repeat constructor) rfl (lv_part hs' hp') (by omega)) ?_
  refine tmv rfl (tmv rfl (trl_eff (ef_call rfl rfl call108 (grid_at (w := w') (h := h') (p := p') (n := w' * h') (x := k % w0 / 2 ^ (j + 1)) (y := k / w0 / 2 ^ (j + 1)) hidx hwh') (by with_reducible repeat constructor) fun x57 hx57 => ?_)))
  dsimp only [List.cons_append, List.nil_append]
  refine tmv rfl (tmv rfl (tmv rfl (tmv rfl (trl_eff (ef_call rfl rfl call107 (tree_least (i := j) (x := k % w0 / 2 ^ (j + 1)) (y := k / w0 / 2 ^ (j + 1)) hF hl (by rw [mk0_length]; exact hmt) hs hp (by omega) (by omega)) (by with_reducible repeat constructor) fun x62 hx62 => ?_)))))
  dsimp only [List.cons_append, List.nil_append]
  refine tnc rfl (trl_pv (pv_fieldAddr runUnderlying184 rfl sizeOf3 rfl rfl) (trl_eff0 (ef_store_ns sizeOf3 rfl rfl rfl (by with_reducible repeat constructor) ⟨leastOf w h (nsOf sh j (w, h) (mk0 (mix sh (nums.set k n) nums (j + 1)))) (k % w0 / 2 ^ (j + 1)) (k / w0 / 2 ^ (j + 1)), 0, false⟩ hs' hp' hidx hv1 (by decide) rfl ?_)))
  refine trl_nil ?_
  rw [mk0_set, mix_level hF.1 ha hs, mix_step hF.1 ha hb hs' hidx hst]
  refine tr_keep (ks := [0,7,8,9]) (.cons rfl (.cons rfl (.cons rfl (.cons rfl .nil)))) fun base => ?_
  refine tr_inBlock (tr_region (tmv rfl (trl_pv (pv_addI rfl rfl (by omega) (by omega)) ?_)))
  refine tas rfl (trl_nil (tr_again ih0 (j + 1) (by first | omega | (dsimp only; omega)) (.cons rfl (.cons rfl (.cons rfl (.cons (keep_int rfl (by omega)) .nil)))) (holds_pure (by omega) (holds_of_picks (by with_reducible repeat constructor)))))
 ·refine tr_exit rfl ?_
  have e := mix_end (sh := sh) hF.1 ha hb
  rw [show j + 1 = sh.length by omega, e]
  refine Tr.fold (pt_fold (ps := ps) ho hl (by rw [mk0_length, mins_length _ _ hF.1 ha]) rfl rfl) (by with_reducible repeat constructor) ?_
  refine tr_end func69 rfl .nil (by kernel_rfl) .nil () rfl trivial (holds_of_picks (by with_reducible repeat constructor))
end Go.Proofs
