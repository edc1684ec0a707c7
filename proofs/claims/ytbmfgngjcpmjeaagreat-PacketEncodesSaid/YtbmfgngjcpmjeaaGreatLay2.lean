/- Contracts of functions that the law reaches, in every memory (part Lay2). -/
import Derived.Test.YtbmfgngjcpmjeaaGreatLay
import Derived.Test.YtbmfgngjcpmjeaaGreatPlainB
import Derived.Test.YtbmfgngjcpmjeaaGreatEngD
set_option linter.unusedVariables false
set_option linter.unusedSimpArgs false
set_option maxRecDepth 10000
namespace Go.Proofs
open Go.Eng Tryz
def pcEnc (l : List (Nat × Nat)) (i : Nat) : List Value := [.int .i64 ((l.getD i (0, 0)).1 : Nat), .int .i64 ((l.getD i (0, 0)).2 : Nat)]
theorem p_pieces {style : Int} {frm to : Nat} : Spec Tryz.prog 110 [.int .i64 style, .int .i64 (frm : Nat), .int .i64 (to : Nat)] []
    (fun x : Nat × Nat × Nat => ⟨.func (.func 128) #[] #[.pointer (some ⟨x.1, 0, none⟩), .pointer (some ⟨x.2.1, 0, none⟩), .pointer (some ⟨x.2.2, 0, none⟩)], True, [pt x.1 3 [.int .i64 (frm : Nat)], pt x.2.1 3 [.int .i64 (to : Nat)], pt x.2.2 3 [.int .i64 style]]⟩) := by
 refine spec_of_tr func110 rfl ntmps110 (by kernel_rfl) ?_
 refine tr_seq (tr_region (trl_eff (ef_box rfl (by dsimp only [cellsL, List.toList_toArray]) fun r3 => ?_)))
 refine trl_eff (ef_box rfl (by dsimp only [cellsL, List.toList_toArray]) fun r4 => ?_)
 refine trl_eff (ef_box rfl (by dsimp only [cellsL, List.toList_toArray]) fun r5 => ?_)
 refine tas rfl (trl_nil (tr_seq (tr_region (trl_pv (pv_makeFunc rfl rfl) (tas rfl (trl_nil (tr_keep (ks := [6]) (.cons rfl .nil) fun base => ?_)))))))
 refine tr_ret func110 rfl .nil (by kernel_rfl) (.tmp rfl .nil) (r4, r5, r3) rfl trivial (holds_of_picks (by repeat (first | with_reducible exact .nil | with_reducible exact .here | apply Picks.cons | apply Pick.there)))
theorem p_pieces1 {style : Int} {frm to rf rt rs : Nat} (hft : frm ≤ to) (hto : to < 1000) : IterSpec Tryz.prog 128 [.pointer (some ⟨rf, 0, none⟩), .pointer (some ⟨rt, 0, none⟩), .pointer (some ⟨rs, 0, none⟩)] [pt rf 3 [.int .i64 (frm : Nat)], pt rt 3 [.int .i64 (to : Nat)], pt rs 3 [.int .i64 style]] (cuts style to (to - frm) frm).length (fun i => [.int .i64 (((pcs (cuts style to (to - frm) frm) frm).getD i (0, 0)).1 : Nat), .int .i64 (((pcs (cuts style to (to - frm) frm) frm).getD i (0, 0)).2 : Nat)]) (fun _ => True) := by
 refine iter_of (fun _ _ => trivial) fun lp A X _ hy => ?_
 dsimp only [List.cons_append, List.nil_append]
 refine spec_of_tr func128 rfl ntmps128 (by kernel_rfl) ?_
 refine tr_seq (tr_region (trl_val (rv_load isAgg3 rfl (by with_reducible repeat constructor) rfl) ?_))
 refine tas rfl (trl_nil (tr_seq (tr_region (trl_val (rv_load isAgg3 rfl (by with_reducible repeat constructor) rfl) ?_))))
 refine tas rfl (trl_nil (tr_block (tr_while (α := Nat × Nat × Nat) ((frm, frm, 0)) (fun x => to - x.1) (fun x => [(0, .func (.yield lp) #[] #[]), (2, .pointer (some ⟨rt, 0, none⟩)), (3, .pointer (some ⟨rs, 0, none⟩)), (5, .int .i64 (x.2.1 : Nat)), (6, .int .i64 (x.1 : Nat))]) (fun x => [pure' (x.1 ≤ to ∧ x.2.2 + (cuts style to (to - x.1) x.1).length = (cuts style to (to - frm) frm).length ∧ (pcs (cuts style to (to - frm) frm) frm).drop x.2.2 = pcs (cuts style to (to - x.1) x.1) x.2.1), pt rf 3 [.int .i64 (frm : Nat)], pt rt 3 [.int .i64 (to : Nat)], pt rs 3 [.int .i64 style], A x.2.2]) (ks := [0,2,3,5,6]) (.cons rfl (.cons rfl (.cons rfl (.cons rfl (.cons rfl .nil))))) (holds_pure ⟨hft, by simp, rfl⟩ (holds_of_picks (by repeat (first | with_reducible exact .nil | with_reducible exact .here | apply Picks.cons | apply Pick.there)))) ?_)))
 intro ⟨k, bg, i⟩ base ih0
 refine Tr.pure fun ⟨hk, hl, hd⟩ => ?_
 dsimp only at hk hl hd ⊢
 refine tr_seq (tr_seq (tr_region (tmv rfl (trl_val (rv_load isAgg3 rfl (by with_reducible repeat constructor) rfl) ?_))))
 refine trl_pv (pv_lss rfl rfl) (trl_nil (tr_if rfl (fun h0 => ?_) (fun h0 => ?_)))
 ·obtain ⟨f, hf⟩ : ∃ f, to - k = f + 1 := ⟨to - k - 1, by omega⟩
  have hf2 : to - (k + 1) = f := by omega
  rw [hf] at hl hd
  simp only [cuts] at hl hd
  refine tr_skip (tr_seq (tr_block (tr_seq (tr_seq (tr_region (trl_val (rv_load isAgg3 rfl (by with_reducible repeat constructor) rfl) ?_))))))
  refine tmv rfl (trl_eff (ef_call rfl rfl call92 (p_ends (style := style) (k := (k : Int)) (by omega)) (by repeat (first | with_reducible exact .nil | with_reducible exact .here | apply Picks.cons | apply Pick.there)) fun x16 hx16 => ?_))
  dsimp only [List.cons_append, List.nil_append]
  refine trl_pv (pv_not rfl) (tmv rfl (trl_splitb 4 rfl (fun g18 => ?_) (fun g18 => ?_)))
  ·refine trl_pvg rfl g18 (pv_move rfl) ?_
   refine trl_valg rfl g18 (rv_load isAgg3 rfl (by with_reducible repeat constructor) rfl) ?_
   refine trl_pvg rfl g18 (pv_subI rfl rfl (by omega) (by omega)) ?_
   refine trl_pvg rfl g18 (pv_lss rfl rfl) ?_
   refine trl_pv (pv_pick_t rfl g18 rfl) (trl_nil (tr_keep (ks := [0,2,3,5,6,23]) (.cons rfl (.cons rfl (.cons rfl (.cons rfl (.cons rfl (.cons rfl .nil)))))) fun base => ?_))
   refine tr_if rfl (fun h1 => ?_) (fun h1 => ?_)
   ·refine tr_exit rfl (tr_region (tmv rfl (trl_pv (pv_addI rfl rfl (by omega) (by omega)) ?_)))
    refine tas rfl (trl_nil ?_)
    have hc : ¬ (k + 1 = to ∨ endsF style (k : Int) = true) := fun h => h.elim (fun h => by omega) (fun h => by rw [h] at g18; simp at g18)
    rw [if_neg hc] at hl hd
    refine tr_again ih0 (k + 1, bg, i) (by first | omega | (dsimp only; omega)) (.cons rfl (.cons rfl (.cons rfl (.cons rfl (.cons (keep_int rfl (by omega)) .nil))))) (holds_pure ⟨by omega, by (try dsimp only); rw [hf2]; exact hl, by (try dsimp only); rw [hf2]; exact hd⟩ (holds_of_picks (by repeat (first | with_reducible exact .nil | with_reducible exact .here | apply Picks.cons | apply Pick.there))))
   ·refine tr_skip (tr_seq (tr_seq ?_))
    have hc : k + 1 = to ∨ endsF style (k : Int) = true := .inl (by omega)
    rw [if_pos hc] at hl hd
    have hget : (pcs (cuts style to (to - frm) frm) frm)[i]? = some (bg, k + 1) := by have h0 := congrArg (fun l => l[0]?) hd; simp only [List.getElem?_drop, pcs, List.getElem?_cons_zero, Nat.add_zero] at h0; exact h0
    have hY := hy i (by simp only [List.length_cons] at hl; omega)
    rw [List.getD_eq_getElem?_getD, hget] at hY
    dsimp only [Option.getD_some] at hY
    refine tr_region (tmv rfl (tmv rfl (tmv rfl (trl_pv (pv_addI rfl rfl (by omega) (by omega)) ?_))))
    refine trl_eff (ef_yield rfl rfl (hY) (by repeat (first | with_reducible exact .nil | with_reducible exact .here | apply Picks.cons | apply Pick.there)) fun b => ?_)
    dsimp only [List.cons_append, List.nil_append]
    refine trl_pv (pv_not rfl) (trl_nil (tr_keep (ks := [0,2,3,6,29]) (.cons rfl (.cons rfl (.cons rfl (.cons rfl (.cons rfl .nil))))) fun base => ?_))
    refine tr_ifb rfl (fun h2 => ?_) (fun h2 => ?_)
    ·obtain rfl : b = false := by simpa using h2
     refine tr_ret func128 rfl .nil (by kernel_rfl) .nil false rfl trivial (by simp only [Bool.false_eq_true, if_false]; exact holds_of_picks (by repeat (first | with_reducible exact .nil | with_reducible exact .here | apply Picks.cons | apply Pick.there)))
    ·obtain rfl : b = true := by simpa using h2
     refine tr_skip (tr_region (tmv rfl (trl_pv (pv_addI rfl rfl (by omega) (by omega)) ?_)))
     refine tas rfl (trl_nil (tr_inBlock (tr_region (tmv rfl (trl_pv (pv_addI rfl rfl (by omega) (by omega)) ?_)))))
     refine tas rfl (trl_nil (tr_again ih0 (k + 1, k + 1, i + 1) (by first | omega | (dsimp only; omega)) (.cons rfl (.cons rfl (.cons rfl (.cons (keep_int rfl (by first | omega | (dsimp only; omega))) (.cons (keep_int rfl (by first | omega | (dsimp only; omega))) .nil))))) (by simp only [if_true]; exact holds_pure ⟨(by first | omega | (dsimp only; omega)), by (try dsimp only); rw [hf2]; simp only [List.length_cons] at hl; omega, by (try dsimp only); rw [hf2]; have h1 := congrArg (List.drop 1) hd; rw [List.drop_drop] at h1; simpa [pcs] using h1⟩ (holds_of_picks (by repeat (first | with_reducible exact .nil | with_reducible exact .here | apply Picks.cons | apply Pick.there))))))
  ·refine trl_not rfl g18 ?_
   refine trl_not rfl g18 ?_
   refine trl_not rfl g18 ?_
   refine trl_not rfl g18 ?_
   refine trl_pv (pv_pick_f rfl g18 rfl) (trl_nil (tr_keep (ks := [0,2,3,5,6,23]) (.cons rfl (.cons rfl (.cons rfl (.cons rfl (.cons rfl (.cons rfl .nil)))))) fun base => ?_))
   refine tr_else rfl rfl ?_
   refine tr_skip (tr_seq (tr_seq ?_))
   have hc : k + 1 = to ∨ endsF style (k : Int) = true := .inr (by simpa using g18)
   rw [if_pos hc] at hl hd
   have hget : (pcs (cuts style to (to - frm) frm) frm)[i]? = some (bg, k + 1) := by have h0 := congrArg (fun l => l[0]?) hd; simp only [List.getElem?_drop, pcs, List.getElem?_cons_zero, Nat.add_zero] at h0; exact h0
   have hY := hy i (by simp only [List.length_cons] at hl; omega)
   rw [List.getD_eq_getElem?_getD, hget] at hY
   dsimp only [Option.getD_some] at hY
   refine tr_region (tmv rfl (tmv rfl (tmv rfl (trl_pv (pv_addI rfl rfl (by omega) (by omega)) ?_))))
   refine trl_eff (ef_yield rfl rfl (hY) (by repeat (first | with_reducible exact .nil | with_reducible exact .here | apply Picks.cons | apply Pick.there)) fun b => ?_)
   dsimp only [List.cons_append, List.nil_append]
   refine trl_pv (pv_not rfl) (trl_nil (tr_keep (ks := [0,2,3,6,29]) (.cons rfl (.cons rfl (.cons rfl (.cons rfl (.cons rfl .nil))))) fun base => ?_))
   refine tr_ifb rfl (fun h2 => ?_) (fun h2 => ?_)
   ·obtain rfl : b = false := by simpa using h2
    refine tr_ret func128 rfl .nil (by kernel_rfl) .nil false rfl trivial (by simp only [Bool.false_eq_true, if_false]; exact holds_of_picks (by repeat (first | with_reducible exact .nil | with_reducible exact .here | apply Picks.cons | apply Pick.there)))
   ·obtain rfl : b = true := by simpa using h2
    refine tr_skip (tr_region (tmv rfl (trl_pv (pv_addI rfl rfl (by omega) (by omega)) ?_)))
    refine tas rfl (trl_nil (tr_inBlock (tr_region (tmv rfl (trl_pv (pv_addI rfl rfl (by omega) (by omega)) ?_)))))
    refine tas rfl (trl_nil (tr_again ih0 (k + 1, k + 1, i + 1) (by first | omega | (dsimp only; omega)) (.cons rfl (.cons rfl (.cons rfl (.cons (keep_int rfl (by first | omega | (dsimp only; omega))) (.cons (keep_int rfl (by first | omega | (dsimp only; omega))) .nil))))) (by simp only [if_true]; exact holds_pure ⟨(by first | omega | (dsimp only; omega)), by (try dsimp only); rw [hf2]; simp only [List.length_cons] at hl; omega, by (try dsimp only); rw [hf2]; have h1 := congrArg (List.drop 1) hd; rw [List.drop_drop] at h1; simpa [pcs] using h1⟩ (holds_of_picks (by repeat (first | with_reducible exact .nil | with_reducible exact .here | apply Picks.cons | apply Pick.there))))))
 ·refine tr_exit rfl ?_
  have hz : to - k = 0 := by omega
  rw [hz] at hl
  simp only [cuts, List.length_nil, Nat.add_zero] at hl
  subst hl
  refine tr_end func128 rfl .nil (by kernel_rfl) .nil true rfl trivial (by simp only [if_true]; exact holds_of_picks (by repeat (first | with_reducible exact .nil | with_reducible exact .here | apply Picks.cons | apply Pick.there)))
theorem p_segments {style : Int} {frm to : Nat} {v : Value} {ends : List Int} (hft : frm ≤ to) (hto : to < 1000) (hte : to ≤ ends.length) (hE : EndsOk ends) (hel : ends.length < 1000000) :
    Spec Tryz.prog 75 [.int .i64 style, .int .i64 (frm : Nat), .int .i64 (to : Nat), v] [Sl 3 1 ends.length v (i64s ends)]
    (fun p : Value × Value => ⟨.tuple #[p.1, p.2], one? p.1 = true ∧ one? p.2 = true, [Sl 3 1 ends.length v (i64s ends), Sl 3 1 (segsF style frm to ends).length p.1 (nats ((segsF style frm to ends).map (·.1))), Sl 3 1 (segsF style frm to ends).length p.2 (i64s ((segsF style frm to ends).map (·.2)))]⟩) := by
 refine spec_of_tr func75 rfl ntmps75 (by kernel_rfl) ?_
 have hcl := cuts_length (style := style) (to := to) (to - frm) frm
 refine tr_slen (by with_reducible repeat constructor) fun hov hvl => ?_
 refine tr_seq (tr_region (trl_eff (ef_box rfl (cellsL_one hov) fun r7 => ?_)))
 refine trl_eff (ef_alloc zeroValue38 (by dsimp only [cellsL, List.toList_toArray]) fun r8 => ?_)
 refine trl_eff (ef_alloc zeroValue38 (by dsimp only [cellsL, List.toList_toArray]) fun r9 => ?_)
 refine trl_nil (tr_seq (tr_draww (rem := [0,1,2,3,4,5,6,7]) (by kernel_rfl) (by kernel_rfl) rfl ?_))
 refine twm 0 [1,6,7] rfl (by kernel_rfl) rfl rfl (trw_pure 1 [6,7] rfl (by kernel_rfl) rfl (pv_conv (pv_maxI rfl rfl) (congrArg (Value.int .i64) (show max (frm : Int) 0 = ((frm : Nat) : Int) from by omega))) (twm 2 [5,7] rfl (by kernel_rfl) rfl rfl (trw_pure 6 [7] rfl (by kernel_rfl) rfl (pv_assign rfl) (trw_read 3 [4,5,7] rfl (by kernel_rfl) rfl (rv_load isAgg38 rfl (by with_reducible repeat constructor) rfl) ?_))))
 refine trw_read 4 [5,7] rfl (by kernel_rfl) rfl (rv_len_sl runUnderlying38 rfl (by with_reducible repeat constructor)) ?_
 refine trw_pure 5 [7] rfl (by kernel_rfl) rfl (pv_conv (pv_minI rfl rfl) (congrArg (Value.int .i64) (show min (to : Int) (ends.length : Int) = ((to : Nat) : Int) from by omega))) (trw_pure 7 [] rfl (by kernel_rfl) rfl (pv_assign rfl) (trw_nil (tr_keep (ks := [0,1,2,7,8,9]) (.cons rfl (.cons rfl (.cons rfl (.cons rfl (.cons rfl (.cons rfl .nil)))))) fun base => ?_)))
 refine tr_seq (tr_region (trl_eff (ef_alloc zeroValue3 (by dsimp only [cellsL, List.toList_toArray]) fun r10 => ?_)))
 refine trl_eff0 (ef_store sizeOf3 rfl rfl (by first | rfl | assumption) (by with_reducible repeat constructor) rfl ?_)
 refine trl_nil (tr_seq (tr_seq (tr_region (tmv rfl (trl_pv (pv_gtr rfl rfl) (tmv rfl (trl_split 2 rfl (fun g21 => ?_) (fun g21 => ?_))))))))
 ·refine trl_pvg rfl (decide_eq_true g21) (pv_move rfl) (trl_valg rfl (decide_eq_true g21) (rv_load isAgg38 rfl (by with_reducible repeat constructor) rfl) ?_)
  refine trl_valg rfl (decide_eq_true g21) (rv_len_sl runUnderlying38 rfl (by with_reducible repeat constructor)) ?_
  refine trl_pvg rfl (decide_eq_true g21) (pv_leq rfl rfl) (trl_pv (pv_pick_t rfl (decide_eq_true g21) rfl) (trl_nil (tr_keep (ks := [0,1,2,7,8,9,10,26]) (.cons rfl (.cons rfl (.cons rfl (.cons rfl (.cons rfl (.cons rfl (.cons rfl (.cons rfl .nil)))))))) fun base => ?_)))
  refine tr_join (α := Unit) (fun _ => [(0, .int .i64 style), (1, .int .i64 (frm : Nat)), (2, .int .i64 (to : Nat)), (7, .pointer (some ⟨r7, 0, none⟩)), (8, .pointer (some ⟨r8, 0, none⟩)), (9, .pointer (some ⟨r9, 0, none⟩)), (10, .pointer (some ⟨r10, 0, none⟩))]) (fun _ => [pt r7 38 [v], pt r8 38 [.slice none 0 0], pt r9 38 [.slice none 0 0], pt r10 3 [.int .i64 (was0 frm ends)], Sl 3 1 ends.length v (i64s ends)]) (fun K0 hK0 => ?_) ?_
  ·refine tr_then rfl (decide_eq_true (by omega)) ?_
   refine tr_region (trl_val (rv_load isAgg38 rfl (by with_reducible repeat constructor) rfl) ?_)
   refine tmv rfl (trl_pv (pv_conv (pv_subI rfl rfl (by omega) (by omega)) (congrArg (Value.int .i64) (show (frm : Int) - 1 = ((frm - 1 : Nat) : Int) from by omega))) ?_)
   refine trl_val (rv_indexAddr_sl runUnderlying38 sizeOf3 rfl rfl (by with_reducible repeat constructor) (by omega) (by omega)) ?_
   refine trl_val (rv_load_sl isAgg3 rfl (by with_reducible repeat constructor) (idx1 (i64s_getD (by omega)))) ?_
   refine trl_eff0 (ef_store sizeOf3 rfl rfl (by first | rfl | assumption) (by with_reducible repeat constructor) rfl ?_)
   refine trl_nil (tr_meet hK0 () (.cons rfl (.cons rfl (.cons rfl (.cons rfl (.cons rfl (.cons rfl (.cons rfl .nil))))))) (by rw [show was0 frm ends = _ from if_pos (by omega)]; exact holds_of_picks (by repeat (first | with_reducible exact .nil | with_reducible exact .here | apply Picks.cons | apply Pick.there))))
  ·intro y base
   refine tr_seq (tr_seq (tr_region (tmv rfl (tmv rfl (tmv rfl (trl_eff (ef_call rfl rfl call110 (p_pieces (style := style) (frm := frm) (to := to)) (by repeat (first | with_reducible exact .nil | with_reducible exact .here | apply Picks.cons | apply Pick.there)) fun ⟨rf, rt, rs⟩ hx35 => ?_)))))))
   dsimp only [List.cons_append, List.nil_append]
   refine trl_nil ?_
   refine tr_empty 3 1 none ?_
   refine tr_empty 3 1 none ?_
   refine Tr.fold (show Fold [pt r7 38 [v], pt r8 38 [.slice none 0 0], pt r9 38 [.slice none 0 0], pt r10 3 [.int .i64 (was0 frm ends)], Sl 3 1 ends.length v (i64s ends), Sl 3 1 0 (.slice none 0 0) [], Sl 3 1 0 (.slice none 0 0) []] (exs (fun p : Value × Value => one? p.1 = true ∧ one? p.2 = true) (fun p : Value × Value => [pt r7 38 [v], pt r8 38 [p.1], pt r9 38 [p.2], pt r10 3 [.int .i64 (wasAt ends (cuts style to (to - frm) frm) (was0 frm ends) 0)], Sl 3 1 ends.length v (i64s ends), Sl 3 1 0 p.1 (nats (((segsF style frm to ends).take 0).map (·.1))), Sl 3 1 0 p.2 (i64s (((segsF style frm to ends).take 0).map (·.2)))])) from exs_fold (α := Value × Value) (p := (fun p : Value × Value => one? p.1 = true ∧ one? p.2 = true)) (A := (fun p : Value × Value => [pt r7 38 [v], pt r8 38 [p.1], pt r9 38 [p.2], pt r10 3 [.int .i64 (wasAt ends (cuts style to (to - frm) frm) (was0 frm ends) 0)], Sl 3 1 ends.length v (i64s ends), Sl 3 1 0 p.1 (nats (((segsF style frm to ends).take 0).map (·.1))), Sl 3 1 0 p.2 (i64s (((segsF style frm to ends).take 0).map (·.2)))])) (.slice none 0 0, .slice none 0 0) ⟨rfl, rfl⟩) (by repeat (first | with_reducible exact .nil | with_reducible exact .here | apply Picks.cons | apply Pick.there)) ?_
   refine tr_block ?_
   refine tr_range rfl call128 (p_pieces1 (rf := rf) (rt := rt) (rs := rs) hft hto) (fun i => [exs (fun p : Value × Value => one? p.1 = true ∧ one? p.2 = true) (fun p : Value × Value => [pt r7 38 [v], pt r8 38 [p.1], pt r9 38 [p.2], pt r10 3 [.int .i64 (wasAt ends (cuts style to (to - frm) frm) (was0 frm ends) i)], Sl 3 1 ends.length v (i64s ends), Sl 3 1 i p.1 (nats (((segsF style frm to ends).take i).map (·.1))), Sl 3 1 i p.2 (i64s (((segsF style frm to ends).take i).map (·.2)))])]) (fun _ _ _ _ => trivial) (fun _ => [pure' False]) (by repeat (first | with_reducible exact .nil | with_reducible exact .here | apply Picks.cons | apply Pick.there)) (fun i hi => rfl) ?_ ?_ ?_
   ·intro lp tm0 dfr i hi
    dsimp only
    obtain ⟨c, hc⟩ := get_some (l := (cuts style to (to - frm) frm)) (i := i) hi
    have hpc := pcs_get _ frm _ _ hc
    rw [List.getD_eq_getElem?_getD, hpc]
    dsimp only [Option.getD_some]
    have hpl := prev_le (prev := frm) (Nat.le_refl _) hc
    have hsg : (segsF style frm to ends)[i]? = some (c + 1 - prevAt (cuts style to (to - frm) frm) frm i, ends.getD c 0 - wasAt ends (cuts style to (to - frm) frm) (was0 frm ends) i) := segs_get ends _ frm (was0 frm ends) _ _ hc
    have hcb := hE.getD c
    have hwb := hE.wasAt (cs := (cuts style to (to - frm) frm)) (hE.was0 frm) i
    refine tr_exs (p := (fun p : Value × Value => one? p.1 = true ∧ one? p.2 = true)) (A := (fun p : Value × Value => [pt r7 38 [v], pt r8 38 [p.1], pt r9 38 [p.2], pt r10 3 [.int .i64 (wasAt ends (cuts style to (to - frm) frm) (was0 frm ends) i)], Sl 3 1 ends.length v (i64s ends), Sl 3 1 i p.1 (nats (((segsF style frm to ends).take i).map (·.1))), Sl 3 1 i p.2 (i64s (((segsF style frm to ends).take i).map (·.2)))])) (by with_reducible repeat constructor) fun ⟨pv, bv⟩ ⟨ho1, ho2⟩ => ?_
    dsimp only [List.cons_append, List.nil_append] at ho1 ho2 ⊢
    refine tr_seq (tr_region (tas rfl (trl_nil (tr_keep (ks := [7,8,9,10,11,37]) (.cons rfl (.cons rfl (.cons rfl (.cons rfl (.cons rfl (.cons rfl .nil)))))) fun base => ?_))))
    refine tr_region (tas rfl (trl_nil (tr_beginRound (by with_reducible repeat constructor) ?_)))
    refine tr_block (tr_seq (tr_region (trl_val (rv_load isAgg38 rfl (by with_reducible repeat constructor) rfl) ?_)))
    refine tmv rfl (tmv rfl (trl_pv (pv_conv (pv_subI rfl rfl (by omega) (by omega)) (congrArg (Value.int .i64) (show ((c + 1 : Nat) : Int) - ((prevAt (cuts style to (to - frm) frm) frm i : Nat) : Int) = ((c + 1 - prevAt (cuts style to (to - frm) frm) frm i : Nat) : Int) from by omega))) ?_))
    refine trl_eff (ef_buildSlice runUnderlying38 sizeOf3 zeroValue3 rfl rfl rfl rfl rfl (by dsimp only [flatC, cellsL, List.toList_toArray, List.cons_append, List.nil_append, List.append_nil]) fun r42 => ?_)
    refine trl_eff (ef_append runUnderlying38 runUnderlying38 typeInfo3 sizeOf3 zeroValue3 rfl rfl rfl (by with_reducible repeat constructor) (reads_pt (by with_reducible repeat constructor) rfl) rfl (by simp [one?]) (by rw [show Tryz.t3.bytes = 8 from rfl]; omega) fun v43 ho43 => ?_)
    refine trl_eff0 (ef_store sizeOf38 rfl rfl (by first | rfl | assumption) (by with_reducible repeat constructor) rfl ?_)
    refine trl_nil (tr_keep (ks := [7,9,10,12]) (.cons rfl (.cons rfl (.cons rfl (.cons rfl .nil)))) fun base => ?_)
    refine tr_seq (tr_draww (rem := [0,1,2,3,4,5,6,7,8,9,10]) (by kernel_rfl) (by kernel_rfl) rfl ?_)
    refine twm 2 [3,4,5,7,8,9,10] rfl (by kernel_rfl) rfl rfl (trw_pure 3 [4,5,7,8,9,10] rfl (by kernel_rfl) rfl (pv_conv (pv_subI rfl rfl (by omega) (by omega)) (congrArg (Value.int .i64) (show ((c + 1 : Nat) : Int) - 1 = ((c : Nat) : Int) from by omega))) ?_)
    refine trw_read 0 [9,10] rfl (by kernel_rfl) rfl (rv_load isAgg38 rfl (by with_reducible repeat constructor) rfl) ?_
    refine trw_read 1 [4,5,7,8,9,10] rfl (by kernel_rfl) rfl (rv_load isAgg38 rfl (by with_reducible repeat constructor) rfl) ?_
    refine trw_read 4 [5,7,8,9,10] rfl (by kernel_rfl) rfl (rv_indexAddr_sl runUnderlying38 sizeOf3 rfl rfl (by with_reducible repeat constructor) (by omega) (by omega)) ?_
    refine trw_read 5 [7,8,9,10] rfl (by kernel_rfl) rfl (rv_load_sl isAgg3 rfl (by with_reducible repeat constructor) (idx1 (i64s_getD (by omega)))) ?_
    refine trw_read 6 [7,8,9,10] rfl (by kernel_rfl) rfl (rv_load isAgg3 rfl (by with_reducible repeat constructor) rfl) ?_
    refine trw_pure 7 [8,9,10] rfl (by kernel_rfl) rfl (pv_subI rfl rfl (by omega) (by omega)) ?_
    refine trw_one 8 (by kernel_rfl) ?_
    refine trwat_eff rfl rfl rfl (ef_buildSlice runUnderlying38 sizeOf3 zeroValue3 rfl rfl rfl rfl rfl (by dsimp only [flatC, cellsL, List.toList_toArray, List.cons_append, List.nil_append, List.append_nil]) fun r52 => ?_)
    refine ⟨?_, (rv_load isAgg38 rfl (by with_reducible repeat constructor) rfl), trivial⟩
    refine trw_one 9 (by kernel_rfl) ?_
    refine trwat_eff rfl rfl rfl (ef_append runUnderlying38 runUnderlying38 typeInfo3 sizeOf3 zeroValue3 rfl rfl rfl (by with_reducible repeat constructor) (reads_pt (by with_reducible repeat constructor) rfl) rfl (by simp [one?]) (by rw [show Tryz.t3.bytes = 8 from rfl]; omega) fun v53 ho53 => ?_)
    refine ⟨?_, trivial⟩
    refine trw_one 10 (by kernel_rfl) ?_
    refine trwat_eff0 rfl rfl rfl (ef_store sizeOf38 rfl rfl (by first | rfl | assumption) (by with_reducible repeat constructor) rfl ?_)
    refine ⟨?_, trivial⟩
    refine trw_nil (tr_keep (ks := [7,10,12]) (.cons rfl (.cons rfl (.cons rfl .nil))) fun base => ?_)
    refine tr_region (trl_val (rv_load isAgg38 rfl (by with_reducible repeat constructor) rfl) ?_)
    refine tmv rfl (trl_pv (pv_conv (pv_subI rfl rfl (by omega) (by omega)) (congrArg (Value.int .i64) (show ((c + 1 : Nat) : Int) - 1 = ((c : Nat) : Int) from by omega))) ?_)
    refine trl_val (rv_indexAddr_sl runUnderlying38 sizeOf3 rfl rfl (by with_reducible repeat constructor) (by omega) (by omega)) ?_
    refine trl_val (rv_load_sl isAgg3 rfl (by with_reducible repeat constructor) (idx1 (i64s_getD (by omega)))) ?_
    refine trl_eff0 (ef_store sizeOf3 rfl rfl (by first | rfl | assumption) (by with_reducible repeat constructor) rfl ?_)
    refine trl_nil (tr_keep (ks := []) (.nil) fun base => ?_)
    refine tr_inBlock (tr_round_end (by with_reducible repeat constructor) (holds_skip (holds_exs (v43, v53) ⟨ho43, ho53⟩ (by dsimp only [List.cons_append, List.nil_append]; rw [nats_map_next hsg, i64s_map_next hsg, show wasAt ends (cuts style to (to - frm) frm) (was0 frm ends) (i + 1) = ends.getD c 0 from by show ends.getD ((cuts style to (to - frm) frm).getD i 0) 0 = _; rw [List.getD_eq_getElem?_getD (l := (cuts style to (to - frm) frm)), hc]; rfl]; exact holds_of_picks (by repeat (first | with_reducible exact .nil | with_reducible exact .here | apply Picks.cons | apply Pick.there))))))
   ·intro r0
    dsimp only [List.cons_append, List.nil_append]
    refine tr_exs (p := (fun p : Value × Value => one? p.1 = true ∧ one? p.2 = true)) (A := (fun p : Value × Value => [pt r7 38 [v], pt r8 38 [p.1], pt r9 38 [p.2], pt r10 3 [.int .i64 (wasAt ends (cuts style to (to - frm) frm) (was0 frm ends) (cuts style to (to - frm) frm).length)], Sl 3 1 ends.length v (i64s ends), Sl 3 1 (cuts style to (to - frm) frm).length p.1 (nats (((segsF style frm to ends).take (cuts style to (to - frm) frm).length).map (·.1))), Sl 3 1 (cuts style to (to - frm) frm).length p.2 (i64s (((segsF style frm to ends).take (cuts style to (to - frm) frm).length).map (·.2)))])) (by with_reducible repeat constructor) fun ⟨pv, bv⟩ ⟨ho1, ho2⟩ => ?_
    dsimp only [List.cons_append, List.nil_append] at ho1 ho2 ⊢
    have hsl : (segsF style frm to ends).length = (cuts style to (to - frm) frm).length := segs_length _ _ _ _
    rw [List.take_of_length_le (l := (segsF style frm to ends)) (by rw [hsl]; exact Nat.le_refl _), ← hsl]
    refine tr_inBlock (tr_seq (tr_draww (rem := [0,1,2,3,4,5]) (by kernel_rfl) (by kernel_rfl) rfl ?_))
    refine trw_read 0 [1,3,4,5] rfl (by kernel_rfl) rfl (rv_load isAgg38 rfl (by with_reducible repeat constructor) rfl) ?_
    refine trw_read 2 [3,4,5] rfl (by kernel_rfl) rfl (rv_load isAgg38 rfl (by with_reducible repeat constructor) rfl) ?_
    refine trw_one 1 (by kernel_rfl) ?_
    refine trwat_eff rfl rfl rfl (ef_append0 runUnderlying38 runUnderlying38 typeInfo3 sizeOf3 zeroValue3 rfl rfl rfl (reads_sl (by with_reducible repeat constructor)) (by simp) one_nats (by rw [show Tryz.t3.bytes = 8 from rfl]; omega) fun v60 ho60 => ?_)
    refine ⟨?_, (rv_load isAgg38 rfl (by with_reducible repeat constructor) rfl), trivial⟩
    refine trw_one 3 (by kernel_rfl) ?_
    refine trwat_eff rfl rfl rfl (ef_append0 runUnderlying38 runUnderlying38 typeInfo3 sizeOf3 zeroValue3 rfl rfl rfl (reads_sl (by with_reducible repeat constructor)) (by simp) one_i64s (by rw [show Tryz.t3.bytes = 8 from rfl]; omega) fun v62 ho62 => ?_)
    refine ⟨?_, trivial⟩
    refine trw_one 4 (by kernel_rfl) ?_
    refine trwat_eff0 rfl rfl rfl (ef_store sizeOf38 rfl rfl (by first | rfl | assumption) (by with_reducible repeat constructor) rfl ?_)
    refine ⟨?_, trivial⟩
    refine trw_one 5 (by kernel_rfl) ?_
    refine trwat_eff0 rfl rfl rfl (ef_store sizeOf38 rfl rfl (by first | rfl | assumption) (by with_reducible repeat constructor) rfl ?_)
    refine ⟨?_, trivial⟩
    refine trw_nil (tr_keep (ks := [8,9]) (.cons rfl (.cons rfl .nil)) fun base => ?_)
    refine tr_ret func75 rfl (by repeat (first | with_reducible exact .here | apply Pick.there | exact .nil | apply Picks.cons)) (by kernel_rfl) (.cell rfl (loadVar_cell isAgg38 (by with_reducible repeat constructor) rfl) (.cell rfl (loadVar_cell isAgg38 (by with_reducible repeat constructor) rfl) .nil)) (v60, v62) rfl ⟨ho60, ho62⟩ (holds_of_picks (by repeat (first | with_reducible exact .nil | with_reducible exact .here | apply Picks.cons | apply Pick.there)))
   ·intro r0 c
    dsimp only [List.cons_append, List.nil_append]
    refine Tr.pick (A := pure' False) (by with_reducible repeat constructor) (Tr.pure fun h => h.elim)
 ·refine trl_not rfl (decide_eq_false g21) ?_
  refine trl_not rfl (decide_eq_false g21) ?_
  refine trl_not rfl (decide_eq_false g21) ?_
  refine trl_not rfl (decide_eq_false g21) ?_
  refine trl_pv (pv_pick_f rfl (decide_eq_false g21) rfl) (trl_nil (tr_keep (ks := [0,1,2,7,8,9,10,26]) (.cons rfl (.cons rfl (.cons rfl (.cons rfl (.cons rfl (.cons rfl (.cons rfl (.cons rfl .nil)))))))) fun base => ?_))
  refine tr_join (α := Unit) (fun _ => [(0, .int .i64 style), (1, .int .i64 (frm : Nat)), (2, .int .i64 (to : Nat)), (7, .pointer (some ⟨r7, 0, none⟩)), (8, .pointer (some ⟨r8, 0, none⟩)), (9, .pointer (some ⟨r9, 0, none⟩)), (10, .pointer (some ⟨r10, 0, none⟩))]) (fun _ => [pt r7 38 [v], pt r8 38 [.slice none 0 0], pt r9 38 [.slice none 0 0], pt r10 3 [.int .i64 (was0 frm ends)], Sl 3 1 ends.length v (i64s ends)]) (fun K0 hK0 => ?_) ?_
  ·refine tr_else rfl rfl ?_
   refine tr_skip (tr_meet hK0 () (.cons rfl (.cons rfl (.cons rfl (.cons rfl (.cons rfl (.cons rfl (.cons rfl .nil))))))) (by rw [show was0 frm ends = _ from if_neg (by omega)]; exact holds_of_picks (by repeat (first | with_reducible exact .nil | with_reducible exact .here | apply Picks.cons | apply Pick.there))))
  ·intro y base
   refine tr_seq (tr_seq (tr_region (tmv rfl (tmv rfl (tmv rfl (trl_eff (ef_call rfl rfl call110 (p_pieces (style := style) (frm := frm) (to := to)) (by repeat (first | with_reducible exact .nil | with_reducible exact .here | apply Picks.cons | apply Pick.there)) fun ⟨rf, rt, rs⟩ hx35 => ?_)))))))
   dsimp only [List.cons_append, List.nil_append]
   refine trl_nil ?_
   refine tr_empty 3 1 none ?_
   refine tr_empty 3 1 none ?_
   refine Tr.fold (show Fold [pt r7 38 [v], pt r8 38 [.slice none 0 0], pt r9 38 [.slice none 0 0], pt r10 3 [.int .i64 (was0 frm ends)], Sl 3 1 ends.length v (i64s ends), Sl 3 1 0 (.slice none 0 0) [], Sl 3 1 0 (.slice none 0 0) []] (exs (fun p : Value × Value => one? p.1 = true ∧ one? p.2 = true) (fun p : Value × Value => [pt r7 38 [v], pt r8 38 [p.1], pt r9 38 [p.2], pt r10 3 [.int .i64 (wasAt ends (cuts style to (to - frm) frm) (was0 frm ends) 0)], Sl 3 1 ends.length v (i64s ends), Sl 3 1 0 p.1 (nats (((segsF style frm to ends).take 0).map (·.1))), Sl 3 1 0 p.2 (i64s (((segsF style frm to ends).take 0).map (·.2)))])) from exs_fold (α := Value × Value) (p := (fun p : Value × Value => one? p.1 = true ∧ one? p.2 = true)) (A := (fun p : Value × Value => [pt r7 38 [v], pt r8 38 [p.1], pt r9 38 [p.2], pt r10 3 [.int .i64 (wasAt ends (cuts style to (to - frm) frm) (was0 frm ends) 0)], Sl 3 1 ends.length v (i64s ends), Sl 3 1 0 p.1 (nats (((segsF style frm to ends).take 0).map (·.1))), Sl 3 1 0 p.2 (i64s (((segsF style frm to ends).take 0).map (·.2)))])) (.slice none 0 0, .slice none 0 0) ⟨rfl, rfl⟩) (by repeat (first | with_reducible exact .nil | with_reducible exact .here | apply Picks.cons | apply Pick.there)) ?_
   refine tr_block ?_
   refine tr_range rfl call128 (p_pieces1 (rf := rf) (rt := rt) (rs := rs) hft hto) (fun i => [exs (fun p : Value × Value => one? p.1 = true ∧ one? p.2 = true) (fun p : Value × Value => [pt r7 38 [v], pt r8 38 [p.1], pt r9 38 [p.2], pt r10 3 [.int .i64 (wasAt ends (cuts style to (to - frm) frm) (was0 frm ends) i)], Sl 3 1 ends.length v (i64s ends), Sl 3 1 i p.1 (nats (((segsF style frm to ends).take i).map (·.1))), Sl 3 1 i p.2 (i64s (((segsF style frm to ends).take i).map (·.2)))])]) (fun _ _ _ _ => trivial) (fun _ => [pure' False]) (by repeat (first | with_reducible exact .nil | with_reducible exact .here | apply Picks.cons | apply Pick.there)) (fun i hi => rfl) ?_ ?_ ?_
   ·intro lp tm0 dfr i hi
    dsimp only
    obtain ⟨c, hc⟩ := get_some (l := (cuts style to (to - frm) frm)) (i := i) hi
    have hpc := pcs_get _ frm _ _ hc
    rw [List.getD_eq_getElem?_getD, hpc]
    dsimp only [Option.getD_some]
    have hpl := prev_le (prev := frm) (Nat.le_refl _) hc
    have hsg : (segsF style frm to ends)[i]? = some (c + 1 - prevAt (cuts style to (to - frm) frm) frm i, ends.getD c 0 - wasAt ends (cuts style to (to - frm) frm) (was0 frm ends) i) := segs_get ends _ frm (was0 frm ends) _ _ hc
    have hcb := hE.getD c
    have hwb := hE.wasAt (cs := (cuts style to (to - frm) frm)) (hE.was0 frm) i
    refine tr_exs (p := (fun p : Value × Value => one? p.1 = true ∧ one? p.2 = true)) (A := (fun p : Value × Value => [pt r7 38 [v], pt r8 38 [p.1], pt r9 38 [p.2], pt r10 3 [.int .i64 (wasAt ends (cuts style to (to - frm) frm) (was0 frm ends) i)], Sl 3 1 ends.length v (i64s ends), Sl 3 1 i p.1 (nats (((segsF style frm to ends).take i).map (·.1))), Sl 3 1 i p.2 (i64s (((segsF style frm to ends).take i).map (·.2)))])) (by with_reducible repeat constructor) fun ⟨pv, bv⟩ ⟨ho1, ho2⟩ => ?_
    dsimp only [List.cons_append, List.nil_append] at ho1 ho2 ⊢
    refine tr_seq (tr_region (tas rfl (trl_nil (tr_keep (ks := [7,8,9,10,11,37]) (.cons rfl (.cons rfl (.cons rfl (.cons rfl (.cons rfl (.cons rfl .nil)))))) fun base => ?_))))
    refine tr_region (tas rfl (trl_nil (tr_beginRound (by with_reducible repeat constructor) ?_)))
    refine tr_block (tr_seq (tr_region (trl_val (rv_load isAgg38 rfl (by with_reducible repeat constructor) rfl) ?_)))
    refine tmv rfl (tmv rfl (trl_pv (pv_conv (pv_subI rfl rfl (by omega) (by omega)) (congrArg (Value.int .i64) (show ((c + 1 : Nat) : Int) - ((prevAt (cuts style to (to - frm) frm) frm i : Nat) : Int) = ((c + 1 - prevAt (cuts style to (to - frm) frm) frm i : Nat) : Int) from by omega))) ?_))
    refine trl_eff (ef_buildSlice runUnderlying38 sizeOf3 zeroValue3 rfl rfl rfl rfl rfl (by dsimp only [flatC, cellsL, List.toList_toArray, List.cons_append, List.nil_append, List.append_nil]) fun r42 => ?_)
    refine trl_eff (ef_append runUnderlying38 runUnderlying38 typeInfo3 sizeOf3 zeroValue3 rfl rfl rfl (by with_reducible repeat constructor) (reads_pt (by with_reducible repeat constructor) rfl) rfl (by simp [one?]) (by rw [show Tryz.t3.bytes = 8 from rfl]; omega) fun v43 ho43 => ?_)
    refine trl_eff0 (ef_store sizeOf38 rfl rfl (by first | rfl | assumption) (by with_reducible repeat constructor) rfl ?_)
    refine trl_nil (tr_keep (ks := [7,9,10,12]) (.cons rfl (.cons rfl (.cons rfl (.cons rfl .nil)))) fun base => ?_)
    refine tr_seq (tr_draww (rem := [0,1,2,3,4,5,6,7,8,9,10]) (by kernel_rfl) (by kernel_rfl) rfl ?_)
    refine twm 2 [3,4,5,7,8,9,10] rfl (by kernel_rfl) rfl rfl (trw_pure 3 [4,5,7,8,9,10] rfl (by kernel_rfl) rfl (pv_conv (pv_subI rfl rfl (by omega) (by omega)) (congrArg (Value.int .i64) (show ((c + 1 : Nat) : Int) - 1 = ((c : Nat) : Int) from by omega))) ?_)
    refine trw_read 0 [9,10] rfl (by kernel_rfl) rfl (rv_load isAgg38 rfl (by with_reducible repeat constructor) rfl) ?_
    refine trw_read 1 [4,5,7,8,9,10] rfl (by kernel_rfl) rfl (rv_load isAgg38 rfl (by with_reducible repeat constructor) rfl) ?_
    refine trw_read 4 [5,7,8,9,10] rfl (by kernel_rfl) rfl (rv_indexAddr_sl runUnderlying38 sizeOf3 rfl rfl (by with_reducible repeat constructor) (by omega) (by omega)) ?_
    refine trw_read 5 [7,8,9,10] rfl (by kernel_rfl) rfl (rv_load_sl isAgg3 rfl (by with_reducible repeat constructor) (idx1 (i64s_getD (by omega)))) ?_
    refine trw_read 6 [7,8,9,10] rfl (by kernel_rfl) rfl (rv_load isAgg3 rfl (by with_reducible repeat constructor) rfl) ?_
    refine trw_pure 7 [8,9,10] rfl (by kernel_rfl) rfl (pv_subI rfl rfl (by omega) (by omega)) ?_
    refine trw_one 8 (by kernel_rfl) ?_
    refine trwat_eff rfl rfl rfl (ef_buildSlice runUnderlying38 sizeOf3 zeroValue3 rfl rfl rfl rfl rfl (by dsimp only [flatC, cellsL, List.toList_toArray, List.cons_append, List.nil_append, List.append_nil]) fun r52 => ?_)
    refine ⟨?_, (rv_load isAgg38 rfl (by with_reducible repeat constructor) rfl), trivial⟩
    refine trw_one 9 (by kernel_rfl) ?_
    refine trwat_eff rfl rfl rfl (ef_append runUnderlying38 runUnderlying38 typeInfo3 sizeOf3 zeroValue3 rfl rfl rfl (by with_reducible repeat constructor) (reads_pt (by with_reducible repeat constructor) rfl) rfl (by simp [one?]) (by rw [show Tryz.t3.bytes = 8 from rfl]; omega) fun v53 ho53 => ?_)
    refine ⟨?_, trivial⟩
    refine trw_one 10 (by kernel_rfl) ?_
    refine trwat_eff0 rfl rfl rfl (ef_store sizeOf38 rfl rfl (by first | rfl | assumption) (by with_reducible repeat constructor) rfl ?_)
    refine ⟨?_, trivial⟩
    refine trw_nil (tr_keep (ks := [7,10,12]) (.cons rfl (.cons rfl (.cons rfl .nil))) fun base => ?_)
    refine tr_region (trl_val (rv_load isAgg38 rfl (by with_reducible repeat constructor) rfl) ?_)
    refine tmv rfl (trl_pv (pv_conv (pv_subI rfl rfl (by omega) (by omega)) (congrArg (Value.int .i64) (show ((c + 1 : Nat) : Int) - 1 = ((c : Nat) : Int) from by omega))) ?_)
    refine trl_val (rv_indexAddr_sl runUnderlying38 sizeOf3 rfl rfl (by with_reducible repeat constructor) (by omega) (by omega)) ?_
    refine trl_val (rv_load_sl isAgg3 rfl (by with_reducible repeat constructor) (idx1 (i64s_getD (by omega)))) ?_
    refine trl_eff0 (ef_store sizeOf3 rfl rfl (by first | rfl | assumption) (by with_reducible repeat constructor) rfl ?_)
    refine trl_nil (tr_keep (ks := []) (.nil) fun base => ?_)
    refine tr_inBlock (tr_round_end (by with_reducible repeat constructor) (holds_skip (holds_exs (v43, v53) ⟨ho43, ho53⟩ (by dsimp only [List.cons_append, List.nil_append]; rw [nats_map_next hsg, i64s_map_next hsg, show wasAt ends (cuts style to (to - frm) frm) (was0 frm ends) (i + 1) = ends.getD c 0 from by show ends.getD ((cuts style to (to - frm) frm).getD i 0) 0 = _; rw [List.getD_eq_getElem?_getD (l := (cuts style to (to - frm) frm)), hc]; rfl]; exact holds_of_picks (by repeat (first | with_reducible exact .nil | with_reducible exact .here | apply Picks.cons | apply Pick.there))))))
   ·intro r0
    dsimp only [List.cons_append, List.nil_append]
    refine tr_exs (p := (fun p : Value × Value => one? p.1 = true ∧ one? p.2 = true)) (A := (fun p : Value × Value => [pt r7 38 [v], pt r8 38 [p.1], pt r9 38 [p.2], pt r10 3 [.int .i64 (wasAt ends (cuts style to (to - frm) frm) (was0 frm ends) (cuts style to (to - frm) frm).length)], Sl 3 1 ends.length v (i64s ends), Sl 3 1 (cuts style to (to - frm) frm).length p.1 (nats (((segsF style frm to ends).take (cuts style to (to - frm) frm).length).map (·.1))), Sl 3 1 (cuts style to (to - frm) frm).length p.2 (i64s (((segsF style frm to ends).take (cuts style to (to - frm) frm).length).map (·.2)))])) (by with_reducible repeat constructor) fun ⟨pv, bv⟩ ⟨ho1, ho2⟩ => ?_
    dsimp only [List.cons_append, List.nil_append] at ho1 ho2 ⊢
    have hsl : (segsF style frm to ends).length = (cuts style to (to - frm) frm).length := segs_length _ _ _ _
    rw [List.take_of_length_le (l := (segsF style frm to ends)) (by rw [hsl]; exact Nat.le_refl _), ← hsl]
    refine tr_inBlock (tr_seq (tr_draww (rem := [0,1,2,3,4,5]) (by kernel_rfl) (by kernel_rfl) rfl ?_))
    refine trw_read 0 [1,3,4,5] rfl (by kernel_rfl) rfl (rv_load isAgg38 rfl (by with_reducible repeat constructor) rfl) ?_
    refine trw_read 2 [3,4,5] rfl (by kernel_rfl) rfl (rv_load isAgg38 rfl (by with_reducible repeat constructor) rfl) ?_
    refine trw_one 1 (by kernel_rfl) ?_
    refine trwat_eff rfl rfl rfl (ef_append0 runUnderlying38 runUnderlying38 typeInfo3 sizeOf3 zeroValue3 rfl rfl rfl (reads_sl (by with_reducible repeat constructor)) (by simp) one_nats (by rw [show Tryz.t3.bytes = 8 from rfl]; omega) fun v60 ho60 => ?_)
    refine ⟨?_, (rv_load isAgg38 rfl (by with_reducible repeat constructor) rfl), trivial⟩
    refine trw_one 3 (by kernel_rfl) ?_
    refine trwat_eff rfl rfl rfl (ef_append0 runUnderlying38 runUnderlying38 typeInfo3 sizeOf3 zeroValue3 rfl rfl rfl (reads_sl (by with_reducible repeat constructor)) (by simp) one_i64s (by rw [show Tryz.t3.bytes = 8 from rfl]; omega) fun v62 ho62 => ?_)
    refine ⟨?_, trivial⟩
    refine trw_one 4 (by kernel_rfl) ?_
    refine trwat_eff0 rfl rfl rfl (ef_store sizeOf38 rfl rfl (by first | rfl | assumption) (by with_reducible repeat constructor) rfl ?_)
    refine ⟨?_, trivial⟩
    refine trw_one 5 (by kernel_rfl) ?_
    refine trwat_eff0 rfl rfl rfl (ef_store sizeOf38 rfl rfl (by first | rfl | assumption) (by with_reducible repeat constructor) rfl ?_)
    refine ⟨?_, trivial⟩
    refine trw_nil (tr_keep (ks := [8,9]) (.cons rfl (.cons rfl .nil)) fun base => ?_)
    refine tr_ret func75 rfl (by repeat (first | with_reducible exact .here | apply Pick.there | exact .nil | apply Picks.cons)) (by kernel_rfl) (.cell rfl (loadVar_cell isAgg38 (by with_reducible repeat constructor) rfl) (.cell rfl (loadVar_cell isAgg38 (by with_reducible repeat constructor) rfl) .nil)) (v60, v62) rfl ⟨ho60, ho62⟩ (holds_of_picks (by repeat (first | with_reducible exact .nil | with_reducible exact .here | apply Picks.cons | apply Pick.there)))
   ·intro r0 c
    dsimp only [List.cons_append, List.nil_append]
    refine Tr.pick (A := pure' False) (by with_reducible repeat constructor) (Tr.pure fun h => h.elim)
theorem r_segments {style : Int} {frm to : Nat} {v : Value} {ends : List Int} (hft : frm ≤ to) (hto : to < 1000) (hte : to ≤ ends.length) (hE : EndsOk ends) (hel : ends.length < 1000000) :
    Spec Tryz.prog 83 [.int .i64 style, .int .i64 (frm : Nat), .int .i64 (to : Nat), v] [Sl 3 1 ends.length v (i64s ends)]
    (fun p : Value × Value => ⟨.tuple #[p.1, p.2], one? p.1 = true ∧ one? p.2 = true, [Sl 3 1 ends.length v (i64s ends), Sl 3 1 (segsF style frm to ends).length p.1 (nats ((segsF style frm to ends).map (·.1))), Sl 3 1 (segsF style frm to ends).length p.2 (i64s ((segsF style frm to ends).map (·.2)))]⟩) := by
 refine spec_of_tr func83 rfl ntmps83 (by kernel_rfl) ?_
 refine tr_slen (by with_reducible repeat constructor) fun hov hvl => ?_
 refine tr_seq (tr_region (tas rfl (tas rfl (trl_nil (tr_seq (tr_region (tas rfl (tas rfl (trl_nil (tr_seq (tr_region (tas rfl (tas rfl ?_)))))))))))))
 refine trl_nil (tr_seq (tr_seq (tr_region (tmv rfl (trl_pv (pv_gtr rfl rfl) (trl_nil ?_))))))
 refine tr_join (α := Unit) (fun _ => [(0, .int .i64 style), (1, .int .i64 (frm : Nat)), (2, .int .i64 (to : Nat)), (3, v), (10, .slice none 0 0), (11, .slice none 0 0), (12, .int .i64 0), (13, .int .i64 (was0 frm ends))]) (fun _ => [Sl 3 1 ends.length v (i64s ends)]) (fun K0 hK0 => ?_) ?_
 ·refine tr_if rfl (fun h0 => ?_) (fun h0 => ?_)
  ·refine tr_region (tmv rfl (tmv rfl (trl_pv (pv_conv (pv_subI rfl rfl (by omega) (by omega)) (congrArg (Value.int .i64) (show (frm : Int) - 1 = ((frm - 1 : Nat) : Int) from by omega))) ?_)))
   refine trl_val (rv_indexAddr_sl runUnderlying38 sizeOf3 rfl rfl (by with_reducible repeat constructor) (by omega) (by omega)) ?_
   refine trl_val (rv_load_sl isAgg3 rfl (by with_reducible repeat constructor) (idx1 (i64s_getD (by omega)))) ?_
   refine tas rfl (trl_nil (tr_keep (ks := [0,1,2,3,10,11,12,13]) (.cons rfl (.cons rfl (.cons rfl (.cons rfl (.cons rfl (.cons rfl (.cons rfl (.cons rfl .nil)))))))) fun base => ?_))
   refine tr_meet hK0 () (.cons rfl (.cons rfl (.cons rfl (.cons rfl (.cons rfl (.cons rfl (.cons rfl (.cons (keep_int rfl (show _ = was0 frm ends from by unfold was0; rw [if_pos (by omega)])) .nil)))))))) (holds_of_picks (by repeat (first | with_reducible exact .nil | with_reducible exact .here | apply Picks.cons | apply Pick.there)))
  ·refine tr_skip (tr_meet hK0 () (.cons rfl (.cons rfl (.cons rfl (.cons rfl (.cons rfl (.cons rfl (.cons rfl (.cons (keep_int rfl (show _ = was0 frm ends from by unfold was0; rw [if_neg (by omega)])) .nil)))))))) (holds_of_picks (by repeat (first | with_reducible exact .nil | with_reducible exact .here | apply Picks.cons | apply Pick.there))))
 ·intro y base
  refine tr_empty 3 1 none ?_
  refine tr_empty 3 1 none ?_
  refine tr_seq (tr_seq (tr_region (tmv rfl (tas rfl (trl_nil (tr_block (tr_while (α := Nat × Nat × Int × Value × Value × List (Nat × Int)) ((frm, 0, was0 frm ends, .slice none 0 0, .slice none 0 0, [])) (fun x => to - x.1) (fun x => [(0, .int .i64 style), (2, .int .i64 (to : Nat)), (3, v), (10, x.2.2.2.1), (11, x.2.2.2.2.1), (12, .int .i64 (x.2.1 : Nat)), (13, .int .i64 x.2.2.1), (14, .int .i64 (x.1 : Nat))]) (fun x => [pure' (frm ≤ x.1 ∧ x.1 ≤ to ∧ x.2.1 ≤ x.1 ∧ (0 ≤ x.2.2.1 ∧ x.2.2.1 ≤ 1000000000000) ∧ one? x.2.2.2.1 = true ∧ one? x.2.2.2.2.1 = true ∧ (x.2.2.2.2.2).length ≤ x.1 - frm ∧ (segsF style frm to ends) = x.2.2.2.2.2 ++ segs ends (cuts style to (to - x.1) x.1) (x.1 - x.2.1) x.2.2.1), Sl 3 1 ends.length v (i64s ends), Sl 3 1 (x.2.2.2.2.2).length x.2.2.2.1 (nats ((x.2.2.2.2.2).map (·.1))), Sl 3 1 (x.2.2.2.2.2).length x.2.2.2.2.1 (i64s ((x.2.2.2.2.2).map (·.2)))]) (ks := [0,2,3,10,11,12,13,14]) (.cons rfl (.cons rfl (.cons rfl (.cons rfl (.cons rfl (.cons rfl (.cons rfl (.cons rfl .nil)))))))) (holds_pure ⟨Nat.le_refl _, hft, Nat.zero_le _, hE.was0 frm, rfl, rfl, Nat.zero_le _, rfl⟩ (holds_eq (As' := [Sl 3 1 ends.length v (i64s ends), Sl 3 1 0 (.slice none 0 0) [], Sl 3 1 0 (.slice none 0 0) []]) (holds_of_picks (by repeat (first | with_reducible exact .nil | with_reducible exact .here | apply Picks.cons | apply Pick.there))) rfl)) ?_)))))))
  intro ⟨k, n, was, pv, bv, dn⟩ base ih0
  refine Tr.pure fun ⟨hk1, hk2, hn, hw, ho1, ho2, hdl, hsg⟩ => ?_
  dsimp only at hk1 hk2 hn hw ho1 ho2 hdl hsg ⊢
  refine tr_seq (tr_seq (tr_region (tmv rfl (tmv rfl (trl_pv (pv_lss rfl rfl) (trl_nil (tr_if rfl (fun h1 => ?_) (fun h1 => ?_))))))))
  ·have hcb := hE.getD k
   obtain ⟨f, hf⟩ : ∃ f, to - k = f + 1 := ⟨to - k - 1, by omega⟩
   have hf2 : to - (k + 1) = f := by omega
   rw [hf] at hsg
   simp only [cuts] at hsg
   refine tr_skip (tr_seq (tr_block (tr_seq (tr_region (tmv rfl (trl_pv (pv_conv (pv_addI rfl rfl (by omega) (by omega)) (congrArg (Value.int .i64) (show (n : Int) + 1 = ((n + 1 : Nat) : Int) from by omega))) ?_))))))
   refine tas rfl (trl_nil (tr_seq (tr_region (tmv rfl (tmv rfl (trl_pv (pv_subI rfl rfl (by omega) (by omega)) ?_))))))
   refine trl_pv (pv_eql rfl rfl) (tmv rfl (trl_split 4 rfl (fun g34 => ?_) (fun g34 => ?_)))
   ·refine trl_not rfl (decide_eq_true g34) ?_
    refine trl_not rfl (decide_eq_true g34) ?_
    refine trl_not rfl (decide_eq_true g34) ?_
    refine trl_pv (pv_pick_t rfl (decide_eq_true g34) rfl) (trl_nil (tr_keep (ks := [0,2,3,10,11,12,13,14,38]) (.cons rfl (.cons rfl (.cons rfl (.cons rfl (.cons rfl (.cons rfl (.cons rfl (.cons rfl (.cons rfl .nil))))))))) fun base => ?_))
    refine tr_then rfl rfl ?_
    refine tr_seq ?_
    have hc : k + 1 = to ∨ endsF style (k : Int) = true := .inl (by omega)
    rw [if_pos hc] at hsg
    simp only [segs] at hsg
    rw [show k + 1 - (k - n) = n + 1 by omega] at hsg
    refine tr_draww (rem := [0,1,2,3,4,5,6,7,8,9,10,11,12,13,14]) (by kernel_rfl) (by kernel_rfl) rfl ?_
    refine twm 0 [3,12,13,14] rfl (by kernel_rfl) rfl rfl (twm 1 [2,3,12,13,14] rfl (by kernel_rfl) rfl rfl (twm 4 [12,13,14] rfl (by kernel_rfl) rfl rfl (twm 5 [7,8,10,11,12,13,14] rfl (by kernel_rfl) rfl rfl (twm 6 [7,8,10,11,12,13,14] rfl (by kernel_rfl) rfl rfl (twm 9 [10,11,12,13,14] rfl (by kernel_rfl) rfl rfl (trw_read 7 [8,10,11,12,13,14] rfl (by kernel_rfl) rfl (rv_indexAddr_sl runUnderlying38 sizeOf3 rfl rfl (by with_reducible repeat constructor) (by omega) (by omega)) ?_))))))
    refine trw_read 8 [10,11,12,13,14] rfl (by kernel_rfl) rfl (rv_load_sl isAgg3 rfl (by with_reducible repeat constructor) (idx1 (i64s_getD (by omega)))) ?_
    refine trw_pure 10 [11,12,13,14] rfl (by kernel_rfl) rfl (pv_subI rfl rfl (by omega) (by omega)) ?_
    refine trw_branch [2,11] (by kernel_rfl) ⟨?_, ?_⟩
    ·refine trwat_eff rfl rfl rfl (ef_buildSlice runUnderlying38 sizeOf3 zeroValue3 rfl rfl rfl rfl rfl (by dsimp only [flatC, cellsL, List.toList_toArray, List.cons_append, List.nil_append, List.append_nil]) fun r41 => ?_)
     refine ⟨?_, (rv_load_sl isAgg3 rfl (by with_reducible repeat constructor) (idx1 (i64s_getD (by omega)))), (rv_indexAddr_sl runUnderlying38 sizeOf3 rfl rfl (by with_reducible repeat constructor) (by omega) (by omega)), trivial⟩
     refine trw_branch [3,11] (by kernel_rfl) ⟨?_, ?_⟩
     ·refine trwat_eff rfl rfl rfl (ef_append runUnderlying38 runUnderlying38 typeInfo3 sizeOf3 zeroValue3 rfl rfl rfl (by with_reducible repeat constructor) (reads_pt (by with_reducible repeat constructor) rfl) rfl (by simp [one?]) (by rw [show Tryz.t3.bytes = 8 from rfl]; omega) fun v42 ho42 => ?_)
      refine ⟨?_, (rv_load_sl isAgg3 rfl (by with_reducible repeat constructor) (idx1 (i64s_getD (by omega)))), (rv_indexAddr_sl runUnderlying38 sizeOf3 rfl rfl (by with_reducible repeat constructor) (by omega) (by omega)), trivial⟩
      refine trw_one 11 (by kernel_rfl) ?_
      refine trwat_eff rfl rfl rfl (ef_buildSlice runUnderlying38 sizeOf3 zeroValue3 rfl rfl rfl rfl rfl (by dsimp only [flatC, cellsL, List.toList_toArray, List.cons_append, List.nil_append, List.append_nil]) fun r50 => ?_)
      refine ⟨?_, trivial⟩
      refine trw_one 12 (by kernel_rfl) ?_
      refine trwat_eff rfl rfl rfl (ef_append runUnderlying38 runUnderlying38 typeInfo3 sizeOf3 zeroValue3 rfl rfl rfl (by with_reducible repeat constructor) (reads_pt (by with_reducible repeat constructor) rfl) rfl (by simp [one?]) (by rw [show Tryz.t3.bytes = 8 from rfl]; omega) fun v51 ho51 => ?_)
      refine ⟨?_, trivial⟩
      refine trw_pure 13 [14] rfl (by kernel_rfl) rfl (pv_assign rfl) (trw_pure 14 [] rfl (by kernel_rfl) rfl (pv_assign rfl) (trw_nil (tr_keep (ks := [0,2,3,10,11,14]) (.cons rfl (.cons rfl (.cons rfl (.cons rfl (.cons rfl (.cons rfl .nil)))))) fun base => ?_)))
      refine tr_draww (rem := [0,1,2,3,4,5]) (by kernel_rfl) (by kernel_rfl) rfl ?_
      refine twm 0 [2,3,5] rfl (by kernel_rfl) rfl rfl (twm 1 [2,3,5] rfl (by kernel_rfl) rfl rfl (trw_pure 4 [5] rfl (by kernel_rfl) rfl (pv_assign rfl) (trw_read 2 [3,5] rfl (by kernel_rfl) rfl (rv_indexAddr_sl runUnderlying38 sizeOf3 rfl rfl (by with_reducible repeat constructor) (by omega) (by omega)) ?_)))
      refine trw_read 3 [5] rfl (by kernel_rfl) rfl (rv_load_sl isAgg3 rfl (by with_reducible repeat constructor) (idx1 (i64s_getD (by omega)))) ?_
      refine trw_pure 5 [] rfl (by kernel_rfl) rfl (pv_assign rfl) (trw_nil (tr_inBlock (tr_region (tmv rfl (trl_pv (pv_addI rfl rfl (by omega) (by omega)) ?_)))))
      refine tas rfl (trl_nil (tr_again ih0 (k + 1, 0, ends.getD k 0, v42, v51, dn ++ [(n + 1, ends.getD k 0 - was)]) (by first | omega | (dsimp only; omega)) (.cons rfl (.cons rfl (.cons rfl (.cons rfl (.cons rfl (.cons (keep_int rfl rfl) (.cons rfl (.cons (keep_int rfl (by first | omega | (dsimp only; omega))) .nil)))))))) (holds_pure ⟨(by first | omega | (dsimp only; omega)), (by first | omega | (dsimp only; omega)), (by first | omega | (dsimp only; omega)), hcb, ho42, ho51, by simp only [List.length_append, List.length_singleton]; omega, by dsimp only; rw [hf2, hsg, Nat.sub_zero]; simp⟩ (by dsimp only; rw [nats_map_snoc, i64s_map_snoc, List.length_append, List.length_singleton]; exact holds_of_picks (by repeat (first | with_reducible exact .nil | with_reducible exact .here | apply Picks.cons | apply Pick.there))))))
     ·refine trwat_eff rfl rfl rfl (ef_buildSlice runUnderlying38 sizeOf3 zeroValue3 rfl rfl rfl rfl rfl (by dsimp only [flatC, cellsL, List.toList_toArray, List.cons_append, List.nil_append, List.append_nil]) fun r50 => ?_)
      refine ⟨?_, trivial⟩
      refine trw_one 3 (by kernel_rfl) ?_
      refine trwat_eff rfl rfl rfl (ef_append runUnderlying38 runUnderlying38 typeInfo3 sizeOf3 zeroValue3 rfl rfl rfl (by with_reducible repeat constructor) (reads_pt (by with_reducible repeat constructor) rfl) rfl (by simp [one?]) (by rw [show Tryz.t3.bytes = 8 from rfl]; omega) fun v42 ho42 => ?_)
      refine ⟨?_, trivial⟩
      refine trw_one 12 (by kernel_rfl) ?_
      refine trwat_eff rfl rfl rfl (ef_append runUnderlying38 runUnderlying38 typeInfo3 sizeOf3 zeroValue3 rfl rfl rfl (by with_reducible repeat constructor) (reads_pt (by with_reducible repeat constructor) rfl) rfl (by simp [one?]) (by rw [show Tryz.t3.bytes = 8 from rfl]; omega) fun v51 ho51 => ?_)
      refine ⟨?_, trivial⟩
      refine trw_pure 13 [14] rfl (by kernel_rfl) rfl (pv_assign rfl) (trw_pure 14 [] rfl (by kernel_rfl) rfl (pv_assign rfl) (trw_nil (tr_keep (ks := [0,2,3,10,11,14]) (.cons rfl (.cons rfl (.cons rfl (.cons rfl (.cons rfl (.cons rfl .nil)))))) fun base => ?_)))
      refine tr_draww (rem := [0,1,2,3,4,5]) (by kernel_rfl) (by kernel_rfl) rfl ?_
      refine twm 0 [2,3,5] rfl (by kernel_rfl) rfl rfl (twm 1 [2,3,5] rfl (by kernel_rfl) rfl rfl (trw_pure 4 [5] rfl (by kernel_rfl) rfl (pv_assign rfl) (trw_read 2 [3,5] rfl (by kernel_rfl) rfl (rv_indexAddr_sl runUnderlying38 sizeOf3 rfl rfl (by with_reducible repeat constructor) (by omega) (by omega)) ?_)))
      refine trw_read 3 [5] rfl (by kernel_rfl) rfl (rv_load_sl isAgg3 rfl (by with_reducible repeat constructor) (idx1 (i64s_getD (by omega)))) ?_
      refine trw_pure 5 [] rfl (by kernel_rfl) rfl (pv_assign rfl) (trw_nil (tr_inBlock (tr_region (tmv rfl (trl_pv (pv_addI rfl rfl (by omega) (by omega)) ?_)))))
      refine tas rfl (trl_nil (tr_again ih0 (k + 1, 0, ends.getD k 0, v42, v51, dn ++ [(n + 1, ends.getD k 0 - was)]) (by first | omega | (dsimp only; omega)) (.cons rfl (.cons rfl (.cons rfl (.cons rfl (.cons rfl (.cons (keep_int rfl rfl) (.cons rfl (.cons (keep_int rfl (by first | omega | (dsimp only; omega))) .nil)))))))) (holds_pure ⟨(by first | omega | (dsimp only; omega)), (by first | omega | (dsimp only; omega)), (by first | omega | (dsimp only; omega)), hcb, ho42, ho51, by simp only [List.length_append, List.length_singleton]; omega, by dsimp only; rw [hf2, hsg, Nat.sub_zero]; simp⟩ (by dsimp only; rw [nats_map_snoc, i64s_map_snoc, List.length_append, List.length_singleton]; exact holds_of_picks (by repeat (first | with_reducible exact .nil | with_reducible exact .here | apply Picks.cons | apply Pick.there))))))
    ·refine trwat_eff rfl rfl rfl (ef_buildSlice runUnderlying38 sizeOf3 zeroValue3 rfl rfl rfl rfl rfl (by dsimp only [flatC, cellsL, List.toList_toArray, List.cons_append, List.nil_append, List.append_nil]) fun r50 => ?_)
     refine ⟨?_, trivial⟩
     refine trw_one 2 (by kernel_rfl) ?_
     refine trwat_eff rfl rfl rfl (ef_buildSlice runUnderlying38 sizeOf3 zeroValue3 rfl rfl rfl rfl rfl (by dsimp only [flatC, cellsL, List.toList_toArray, List.cons_append, List.nil_append, List.append_nil]) fun r41 => ?_)
     refine ⟨?_, trivial⟩
     refine trw_one 3 (by kernel_rfl) ?_
     refine trwat_eff rfl rfl rfl (ef_append runUnderlying38 runUnderlying38 typeInfo3 sizeOf3 zeroValue3 rfl rfl rfl (by with_reducible repeat constructor) (reads_pt (by with_reducible repeat constructor) rfl) rfl (by simp [one?]) (by rw [show Tryz.t3.bytes = 8 from rfl]; omega) fun v42 ho42 => ?_)
     refine ⟨?_, trivial⟩
     refine trw_one 12 (by kernel_rfl) ?_
     refine trwat_eff rfl rfl rfl (ef_append runUnderlying38 runUnderlying38 typeInfo3 sizeOf3 zeroValue3 rfl rfl rfl (by with_reducible repeat constructor) (reads_pt (by with_reducible repeat constructor) rfl) rfl (by simp [one?]) (by rw [show Tryz.t3.bytes = 8 from rfl]; omega) fun v51 ho51 => ?_)
     refine ⟨?_, trivial⟩
     refine trw_pure 13 [14] rfl (by kernel_rfl) rfl (pv_assign rfl) (trw_pure 14 [] rfl (by kernel_rfl) rfl (pv_assign rfl) (trw_nil (tr_keep (ks := [0,2,3,10,11,14]) (.cons rfl (.cons rfl (.cons rfl (.cons rfl (.cons rfl (.cons rfl .nil)))))) fun base => ?_)))
     refine tr_draww (rem := [0,1,2,3,4,5]) (by kernel_rfl) (by kernel_rfl) rfl ?_
     refine twm 0 [2,3,5] rfl (by kernel_rfl) rfl rfl (twm 1 [2,3,5] rfl (by kernel_rfl) rfl rfl (trw_pure 4 [5] rfl (by kernel_rfl) rfl (pv_assign rfl) (trw_read 2 [3,5] rfl (by kernel_rfl) rfl (rv_indexAddr_sl runUnderlying38 sizeOf3 rfl rfl (by with_reducible repeat constructor) (by omega) (by omega)) ?_)))
     refine trw_read 3 [5] rfl (by kernel_rfl) rfl (rv_load_sl isAgg3 rfl (by with_reducible repeat constructor) (idx1 (i64s_getD (by omega)))) ?_
     refine trw_pure 5 [] rfl (by kernel_rfl) rfl (pv_assign rfl) (trw_nil (tr_inBlock (tr_region (tmv rfl (trl_pv (pv_addI rfl rfl (by omega) (by omega)) ?_)))))
     refine tas rfl (trl_nil (tr_again ih0 (k + 1, 0, ends.getD k 0, v42, v51, dn ++ [(n + 1, ends.getD k 0 - was)]) (by first | omega | (dsimp only; omega)) (.cons rfl (.cons rfl (.cons rfl (.cons rfl (.cons rfl (.cons (keep_int rfl rfl) (.cons rfl (.cons (keep_int rfl (by first | omega | (dsimp only; omega))) .nil)))))))) (holds_pure ⟨(by first | omega | (dsimp only; omega)), (by first | omega | (dsimp only; omega)), (by first | omega | (dsimp only; omega)), hcb, ho42, ho51, by simp only [List.length_append, List.length_singleton]; omega, by dsimp only; rw [hf2, hsg, Nat.sub_zero]; simp⟩ (by dsimp only; rw [nats_map_snoc, i64s_map_snoc, List.length_append, List.length_singleton]; exact holds_of_picks (by repeat (first | with_reducible exact .nil | with_reducible exact .here | apply Picks.cons | apply Pick.there))))))
   ·refine trl_pvg rfl (decide_eq_false g34) (pv_move rfl) (trl_pvg rfl (decide_eq_false g34) (pv_move rfl) (trl_effg rfl (decide_eq_false g34) (ef_call rfl rfl call97 (r_ends (style := style) (k := (k : Int)) (by omega)) (by repeat (first | with_reducible exact .nil | with_reducible exact .here | apply Picks.cons | apply Pick.there)) fun x37 hx37 => ?_)))
    dsimp only [List.cons_append, List.nil_append]
    refine trl_pv (pv_pick_f rfl (decide_eq_false g34) rfl) (trl_nil (tr_keep (ks := [0,2,3,10,11,12,13,14,38]) (.cons rfl (.cons rfl (.cons rfl (.cons rfl (.cons rfl (.cons rfl (.cons rfl (.cons rfl (.cons rfl .nil))))))))) fun base => ?_))
    refine tr_ifb rfl (fun h2 => ?_) (fun h2 => ?_)
    ·refine tr_seq ?_
     have hc : k + 1 = to ∨ endsF style (k : Int) = true := .inr h2
     rw [if_pos hc] at hsg
     simp only [segs] at hsg
     rw [show k + 1 - (k - n) = n + 1 by omega] at hsg
     refine tr_draww (rem := [0,1,2,3,4,5,6,7,8,9,10,11,12,13,14]) (by kernel_rfl) (by kernel_rfl) rfl ?_
     refine twm 0 [3,12,13,14] rfl (by kernel_rfl) rfl rfl (twm 1 [2,3,12,13,14] rfl (by kernel_rfl) rfl rfl (twm 4 [12,13,14] rfl (by kernel_rfl) rfl rfl (twm 5 [7,8,10,11,12,13,14] rfl (by kernel_rfl) rfl rfl (twm 6 [7,8,10,11,12,13,14] rfl (by kernel_rfl) rfl rfl (twm 9 [10,11,12,13,14] rfl (by kernel_rfl) rfl rfl (trw_read 7 [8,10,11,12,13,14] rfl (by kernel_rfl) rfl (rv_indexAddr_sl runUnderlying38 sizeOf3 rfl rfl (by with_reducible repeat constructor) (by omega) (by omega)) ?_))))))
     refine trw_read 8 [10,11,12,13,14] rfl (by kernel_rfl) rfl (rv_load_sl isAgg3 rfl (by with_reducible repeat constructor) (idx1 (i64s_getD (by omega)))) ?_
     refine trw_pure 10 [11,12,13,14] rfl (by kernel_rfl) rfl (pv_subI rfl rfl (by omega) (by omega)) ?_
     refine trw_branch [2,11] (by kernel_rfl) ⟨?_, ?_⟩
     ·refine trwat_eff rfl rfl rfl (ef_buildSlice runUnderlying38 sizeOf3 zeroValue3 rfl rfl rfl rfl rfl (by dsimp only [flatC, cellsL, List.toList_toArray, List.cons_append, List.nil_append, List.append_nil]) fun r41 => ?_)
      refine ⟨?_, (rv_load_sl isAgg3 rfl (by with_reducible repeat constructor) (idx1 (i64s_getD (by omega)))), (rv_indexAddr_sl runUnderlying38 sizeOf3 rfl rfl (by with_reducible repeat constructor) (by omega) (by omega)), trivial⟩
      refine trw_branch [3,11] (by kernel_rfl) ⟨?_, ?_⟩
      ·refine trwat_eff rfl rfl rfl (ef_append runUnderlying38 runUnderlying38 typeInfo3 sizeOf3 zeroValue3 rfl rfl rfl (by with_reducible repeat constructor) (reads_pt (by with_reducible repeat constructor) rfl) rfl (by simp [one?]) (by rw [show Tryz.t3.bytes = 8 from rfl]; omega) fun v42 ho42 => ?_)
       refine ⟨?_, (rv_load_sl isAgg3 rfl (by with_reducible repeat constructor) (idx1 (i64s_getD (by omega)))), (rv_indexAddr_sl runUnderlying38 sizeOf3 rfl rfl (by with_reducible repeat constructor) (by omega) (by omega)), trivial⟩
       refine trw_one 11 (by kernel_rfl) ?_
       refine trwat_eff rfl rfl rfl (ef_buildSlice runUnderlying38 sizeOf3 zeroValue3 rfl rfl rfl rfl rfl (by dsimp only [flatC, cellsL, List.toList_toArray, List.cons_append, List.nil_append, List.append_nil]) fun r50 => ?_)
       refine ⟨?_, trivial⟩
       refine trw_one 12 (by kernel_rfl) ?_
       refine trwat_eff rfl rfl rfl (ef_append runUnderlying38 runUnderlying38 typeInfo3 sizeOf3 zeroValue3 rfl rfl rfl (by with_reducible repeat constructor) (reads_pt (by with_reducible repeat constructor) rfl) rfl (by simp [one?]) (by rw [show Tryz.t3.bytes = 8 from rfl]; omega) fun v51 ho51 => ?_)
       refine ⟨?_, trivial⟩
       refine trw_pure 13 [14] rfl (by kernel_rfl) rfl (pv_assign rfl) (trw_pure 14 [] rfl (by kernel_rfl) rfl (pv_assign rfl) (trw_nil (tr_keep (ks := [0,2,3,10,11,14]) (.cons rfl (.cons rfl (.cons rfl (.cons rfl (.cons rfl (.cons rfl .nil)))))) fun base => ?_)))
       refine tr_draww (rem := [0,1,2,3,4,5]) (by kernel_rfl) (by kernel_rfl) rfl ?_
       refine twm 0 [2,3,5] rfl (by kernel_rfl) rfl rfl (twm 1 [2,3,5] rfl (by kernel_rfl) rfl rfl (trw_pure 4 [5] rfl (by kernel_rfl) rfl (pv_assign rfl) (trw_read 2 [3,5] rfl (by kernel_rfl) rfl (rv_indexAddr_sl runUnderlying38 sizeOf3 rfl rfl (by with_reducible repeat constructor) (by omega) (by omega)) ?_)))
       refine trw_read 3 [5] rfl (by kernel_rfl) rfl (rv_load_sl isAgg3 rfl (by with_reducible repeat constructor) (idx1 (i64s_getD (by omega)))) ?_
       refine trw_pure 5 [] rfl (by kernel_rfl) rfl (pv_assign rfl) (trw_nil (tr_inBlock (tr_region (tmv rfl (trl_pv (pv_addI rfl rfl (by omega) (by omega)) ?_)))))
       refine tas rfl (trl_nil (tr_again ih0 (k + 1, 0, ends.getD k 0, v42, v51, dn ++ [(n + 1, ends.getD k 0 - was)]) (by first | omega | (dsimp only; omega)) (.cons rfl (.cons rfl (.cons rfl (.cons rfl (.cons rfl (.cons (keep_int rfl rfl) (.cons rfl (.cons (keep_int rfl (by first | omega | (dsimp only; omega))) .nil)))))))) (holds_pure ⟨(by first | omega | (dsimp only; omega)), (by first | omega | (dsimp only; omega)), (by first | omega | (dsimp only; omega)), hcb, ho42, ho51, by simp only [List.length_append, List.length_singleton]; omega, by dsimp only; rw [hf2, hsg, Nat.sub_zero]; simp⟩ (by dsimp only; rw [nats_map_snoc, i64s_map_snoc, List.length_append, List.length_singleton]; exact holds_of_picks (by repeat (first | with_reducible exact .nil | with_reducible exact .here | apply Picks.cons | apply Pick.there))))))
      ·refine trwat_eff rfl rfl rfl (ef_buildSlice runUnderlying38 sizeOf3 zeroValue3 rfl rfl rfl rfl rfl (by dsimp only [flatC, cellsL, List.toList_toArray, List.cons_append, List.nil_append, List.append_nil]) fun r50 => ?_)
       refine ⟨?_, trivial⟩
       refine trw_one 3 (by kernel_rfl) ?_
       refine trwat_eff rfl rfl rfl (ef_append runUnderlying38 runUnderlying38 typeInfo3 sizeOf3 zeroValue3 rfl rfl rfl (by with_reducible repeat constructor) (reads_pt (by with_reducible repeat constructor) rfl) rfl (by simp [one?]) (by rw [show Tryz.t3.bytes = 8 from rfl]; omega) fun v42 ho42 => ?_)
       refine ⟨?_, trivial⟩
       refine trw_one 12 (by kernel_rfl) ?_
       refine trwat_eff rfl rfl rfl (ef_append runUnderlying38 runUnderlying38 typeInfo3 sizeOf3 zeroValue3 rfl rfl rfl (by with_reducible repeat constructor) (reads_pt (by with_reducible repeat constructor) rfl) rfl (by simp [one?]) (by rw [show Tryz.t3.bytes = 8 from rfl]; omega) fun v51 ho51 => ?_)
       refine ⟨?_, trivial⟩
       refine trw_pure 13 [14] rfl (by kernel_rfl) rfl (pv_assign rfl) (trw_pure 14 [] rfl (by kernel_rfl) rfl (pv_assign rfl) (trw_nil (tr_keep (ks := [0,2,3,10,11,14]) (.cons rfl (.cons rfl (.cons rfl (.cons rfl (.cons rfl (.cons rfl .nil)))))) fun base => ?_)))
       refine tr_draww (rem := [0,1,2,3,4,5]) (by kernel_rfl) (by kernel_rfl) rfl ?_
       refine twm 0 [2,3,5] rfl (by kernel_rfl) rfl rfl (twm 1 [2,3,5] rfl (by kernel_rfl) rfl rfl (trw_pure 4 [5] rfl (by kernel_rfl) rfl (pv_assign rfl) (trw_read 2 [3,5] rfl (by kernel_rfl) rfl (rv_indexAddr_sl runUnderlying38 sizeOf3 rfl rfl (by with_reducible repeat constructor) (by omega) (by omega)) ?_)))
       refine trw_read 3 [5] rfl (by kernel_rfl) rfl (rv_load_sl isAgg3 rfl (by with_reducible repeat constructor) (idx1 (i64s_getD (by omega)))) ?_
       refine trw_pure 5 [] rfl (by kernel_rfl) rfl (pv_assign rfl) (trw_nil (tr_inBlock (tr_region (tmv rfl (trl_pv (pv_addI rfl rfl (by omega) (by omega)) ?_)))))
       refine tas rfl (trl_nil (tr_again ih0 (k + 1, 0, ends.getD k 0, v42, v51, dn ++ [(n + 1, ends.getD k 0 - was)]) (by first | omega | (dsimp only; omega)) (.cons rfl (.cons rfl (.cons rfl (.cons rfl (.cons rfl (.cons (keep_int rfl rfl) (.cons rfl (.cons (keep_int rfl (by first | omega | (dsimp only; omega))) .nil)))))))) (holds_pure ⟨(by first | omega | (dsimp only; omega)), (by first | omega | (dsimp only; omega)), (by first | omega | (dsimp only; omega)), hcb, ho42, ho51, by simp only [List.length_append, List.length_singleton]; omega, by dsimp only; rw [hf2, hsg, Nat.sub_zero]; simp⟩ (by dsimp only; rw [nats_map_snoc, i64s_map_snoc, List.length_append, List.length_singleton]; exact holds_of_picks (by repeat (first | with_reducible exact .nil | with_reducible exact .here | apply Picks.cons | apply Pick.there))))))
     ·refine trwat_eff rfl rfl rfl (ef_buildSlice runUnderlying38 sizeOf3 zeroValue3 rfl rfl rfl rfl rfl (by dsimp only [flatC, cellsL, List.toList_toArray, List.cons_append, List.nil_append, List.append_nil]) fun r50 => ?_)
      refine ⟨?_, trivial⟩
      refine trw_one 2 (by kernel_rfl) ?_
      refine trwat_eff rfl rfl rfl (ef_buildSlice runUnderlying38 sizeOf3 zeroValue3 rfl rfl rfl rfl rfl (by dsimp only [flatC, cellsL, List.toList_toArray, List.cons_append, List.nil_append, List.append_nil]) fun r41 => ?_)
      refine ⟨?_, trivial⟩
      refine trw_one 3 (by kernel_rfl) ?_
      refine trwat_eff rfl rfl rfl (ef_append runUnderlying38 runUnderlying38 typeInfo3 sizeOf3 zeroValue3 rfl rfl rfl (by with_reducible repeat constructor) (reads_pt (by with_reducible repeat constructor) rfl) rfl (by simp [one?]) (by rw [show Tryz.t3.bytes = 8 from rfl]; omega) fun v42 ho42 => ?_)
      refine ⟨?_, trivial⟩
      refine trw_one 12 (by kernel_rfl) ?_
      refine trwat_eff rfl rfl rfl (ef_append runUnderlying38 runUnderlying38 typeInfo3 sizeOf3 zeroValue3 rfl rfl rfl (by with_reducible repeat constructor) (reads_pt (by with_reducible repeat constructor) rfl) rfl (by simp [one?]) (by rw [show Tryz.t3.bytes = 8 from rfl]; omega) fun v51 ho51 => ?_)
      refine ⟨?_, trivial⟩
      refine trw_pure 13 [14] rfl (by kernel_rfl) rfl (pv_assign rfl) (trw_pure 14 [] rfl (by kernel_rfl) rfl (pv_assign rfl) (trw_nil (tr_keep (ks := [0,2,3,10,11,14]) (.cons rfl (.cons rfl (.cons rfl (.cons rfl (.cons rfl (.cons rfl .nil)))))) fun base => ?_)))
      refine tr_draww (rem := [0,1,2,3,4,5]) (by kernel_rfl) (by kernel_rfl) rfl ?_
      refine twm 0 [2,3,5] rfl (by kernel_rfl) rfl rfl (twm 1 [2,3,5] rfl (by kernel_rfl) rfl rfl (trw_pure 4 [5] rfl (by kernel_rfl) rfl (pv_assign rfl) (trw_read 2 [3,5] rfl (by kernel_rfl) rfl (rv_indexAddr_sl runUnderlying38 sizeOf3 rfl rfl (by with_reducible repeat constructor) (by omega) (by omega)) ?_)))
      refine trw_read 3 [5] rfl (by kernel_rfl) rfl (rv_load_sl isAgg3 rfl (by with_reducible repeat constructor) (idx1 (i64s_getD (by omega)))) ?_
      refine trw_pure 5 [] rfl (by kernel_rfl) rfl (pv_assign rfl) (trw_nil (tr_inBlock (tr_region (tmv rfl (trl_pv (pv_addI rfl rfl (by omega) (by omega)) ?_)))))
      refine tas rfl (trl_nil (tr_again ih0 (k + 1, 0, ends.getD k 0, v42, v51, dn ++ [(n + 1, ends.getD k 0 - was)]) (by first | omega | (dsimp only; omega)) (.cons rfl (.cons rfl (.cons rfl (.cons rfl (.cons rfl (.cons (keep_int rfl rfl) (.cons rfl (.cons (keep_int rfl (by first | omega | (dsimp only; omega))) .nil)))))))) (holds_pure ⟨(by first | omega | (dsimp only; omega)), (by first | omega | (dsimp only; omega)), (by first | omega | (dsimp only; omega)), hcb, ho42, ho51, by simp only [List.length_append, List.length_singleton]; omega, by dsimp only; rw [hf2, hsg, Nat.sub_zero]; simp⟩ (by dsimp only; rw [nats_map_snoc, i64s_map_snoc, List.length_append, List.length_singleton]; exact holds_of_picks (by repeat (first | with_reducible exact .nil | with_reducible exact .here | apply Picks.cons | apply Pick.there))))))
    ·refine tr_skip (tr_inBlock (tr_region (tmv rfl (trl_pv (pv_addI rfl rfl (by omega) (by omega)) ?_))))
     refine tas rfl (trl_nil ?_)
     have hc : ¬ (k + 1 = to ∨ endsF style (k : Int) = true) := fun h => h.elim (fun h => by omega) (fun h => by rw [h] at h2; simp at h2)
     rw [if_neg hc] at hsg
     refine tr_again ih0 (k + 1, n + 1, was, pv, bv, dn) (by first | omega | (dsimp only; omega)) (.cons rfl (.cons rfl (.cons rfl (.cons rfl (.cons rfl (.cons rfl (.cons rfl (.cons (keep_int rfl (by first | omega | (dsimp only; omega))) .nil)))))))) (holds_pure ⟨(by first | omega | (dsimp only; omega)), (by first | omega | (dsimp only; omega)), (by first | omega | (dsimp only; omega)), hw, ho1, ho2, (by first | omega | (dsimp only; omega)), by dsimp only; rw [hf2, hsg, Nat.add_sub_add_right]⟩ (holds_of_picks (by repeat (first | with_reducible exact .nil | with_reducible exact .here | apply Picks.cons | apply Pick.there))))
  ·refine tr_exit rfl (tr_seq (tr_region (tmv rfl (tmv rfl (tas rfl (tas rfl (trl_nil (tr_keep (ks := [8,9]) (.cons rfl (.cons rfl .nil)) fun base => ?_))))))))
   have hz : to - k = 0 := by omega
   rw [hz] at hsg
   simp only [cuts, segs, List.append_nil] at hsg
   rw [hsg]
   refine tr_ret func83 rfl .nil (by kernel_rfl) (.tmp rfl (.tmp rfl .nil)) (pv, bv) rfl ⟨ho1, ho2⟩ (holds_of_picks (by repeat (first | with_reducible exact .nil | with_reducible exact .here | apply Picks.cons | apply Pick.there)))
end Go.Proofs
