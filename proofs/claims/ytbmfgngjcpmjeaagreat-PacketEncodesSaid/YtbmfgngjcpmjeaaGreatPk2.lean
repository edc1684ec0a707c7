/- Contracts of functions that the law reaches, in every memory (part Pk2). -/
import Derived.Test.YtbmfgngjcpmjeaaGreatPk
set_option linter.unusedVariables false
set_option linter.unusedSimpArgs false
set_option maxRecDepth 10000
namespace Go.Proofs
open Go.Eng Tryz
theorem rd_pb {g : Gd} {bd : Bd} {L M : List SL} (hp : Pick (PB g bd) L M) : Rd L g.r 0 g.v :=
  Rd.unfold pb_open hp fun _ _ => Rd.pt .here rfl
theorem heads_one {g : Gd} {bd : Bd} {L M : List SL} (hp : Pick (PB g bd) L M) : HeadsRd [g] L := by
  intro j g' h
  cases j with
  | zero => simp at h; subst h; exact rd_pb hp
  | succ j => simp at h
theorem p_spots_one {rl n : Nat} {lv : Value} {g : Gd} (hn : n ≤ 100000) (hv : SlV g.v n) :
    IterSpec Tryz.prog 68 [.pointer (some ⟨rl, 0, none⟩)] [pt rl 26 [lv], Sl 43 1 1 lv [.pointer (some ⟨g.r, 0, none⟩)]] n
      (fun i => [.agg #[.pointer (some ⟨slBase g.v, i * 5, none⟩), .pointer (some ⟨g.r, 0, none⟩), .int .i64 (i : Nat)]]) (HeadsRd [g]) := by
  have h := p_spots1 (rl := rl) (lv := lv) (G := [g]) (ns := [n]) (by simp) rfl (by simpa using hn) (by
    intro j g' n' h1 h2
    cases j with
    | zero => simp at h1 h2; subst h1; subst h2; exact hv
    | succ j => simp at h1)
  intro lp I X hQ hy
  have e := spots_one_length n
  have h2 := h lp I X (fun i hi => hQ i (by omega)) (fun i hi => by
    have := hy i (by omega)
    simp only [List.getD_eq_getElem?_getD, spots_one (show i < n by omega), Option.getD_some]
    exact this)
  rw [e] at h2
  exact h2
theorem p_plant {g : Gd} {bd : Bd} {count : Nat} (hB : BdOk bd) (hc : 1 ≤ count) (hc2 : count ≤ 100) (hn : bd.ss.length ≤ 100000) : Spec Tryz.prog 23 [.pointer (some ⟨g.r, 0, none⟩), .int .i64 (count : Nat)] [PB g bd]
    (fun _ : Unit => ⟨.tuple #[], True, [PB g (plantF count bd)]⟩) := by
 refine spec_of_tr func23 rfl ntmps23 (by kernel_rfl) ?_
 refine tr_seq (tr_region (trl_eff (ef_box rfl (by dsimp only [cellsL, List.toList_toArray]) fun r2 => ?_)))
 refine trl_eff (ef_box rfl (by dsimp only [cellsL, List.toList_toArray]) fun r3 => ?_)
 refine trl_nil ?_
 refine Tr.unfold pb_open (by with_reducible repeat constructor) fun _ hgl => ?_
 dsimp only [List.cons_append, List.nil_append]
 refine tr_seq (tr_seq (tr_region (trl_val (rv_load isAgg43 rfl (by with_reducible repeat constructor) rfl) ?_)))
 refine tnc rfl (trl_pv (pv_fieldAddr runUnderlying118 rfl sizeOf4 rfl rfl) (trl_val (rv_load isAgg4 rfl (by with_reducible repeat constructor) rfl) ?_))
 refine trl_nil (tr_ifb rfl (fun h0 => ?_) (fun h0 => ?_))
 ·refine Tr.fold (pb_fold (g := g) (bd := bd) hgl rfl rfl rfl rfl rfl rfl rfl rfl rfl rfl rfl rfl) (by repeat (first | with_reducible exact .nil | with_reducible exact .here | apply Picks.cons | apply Pick.there)) ?_
  rw [show plantF count bd = bd from if_pos h0]
  refine tr_ret func23 rfl .nil (by kernel_rfl) .nil () rfl trivial (holds_of_picks (by repeat (first | with_reducible exact .nil | with_reducible exact .here | apply Picks.cons | apply Pick.there)))
 ·refine tr_skip (tr_seq (tr_region (trl_val (rv_load isAgg43 rfl (by with_reducible repeat constructor) rfl) ?_)))
  refine tnc rfl (trl_pv (pv_fieldAddr runUnderlying118 rfl sizeOf4 rfl rfl) (trl_eff0 (ef_store sizeOf4 rfl rfl (by first | rfl | assumption) (by with_reducible repeat constructor) rfl ?_)))
  refine trl_nil ?_
  have h00 : ¬ bd.set = true := by rw [h0]; simp
  have hz := plI_zero (count := count) (hB.none h0)
  refine Tr.fact (p := SlV g.v bd.ss.length) (fun F w hw => SlV.of (Holds.perm hw (Pick.perm (A := Sl 69 5 bd.ss.length g.v (scells bd.ss g.gs)) (by with_reducible repeat constructor)))) fun hgv => ?_
  refine Tr.fold (pb_fold (g := g) (bd := plI count bd 0) (r := g.r) (v := g.v) (p := bd.planes) (rF := g.rF) (rZ := g.rZ) (st := true) (sh := bd.sh) (n := bd.ss.length) (cs := scells bd.ss g.gs) (ss' := bd.ss) (T1 := bd.first) (T2 := bd.zeros) hgl rfl rfl rfl rfl rfl rfl rfl rfl rfl (by rw [hz]) (by rw [hz]) rfl) (by repeat (first | with_reducible exact .nil | with_reducible exact .here | apply Picks.cons | apply Pick.there)) ?_
  refine tr_keep (ks := [2,3]) (.cons rfl (.cons rfl .nil)) fun base => ?_
  refine tr_seq (tr_region (trl_val (rv_load isAgg43 rfl (by with_reducible repeat constructor) rfl) ?_))
  refine trl_eff (ef_buildSlice runUnderlying26 sizeOf43 zeroValue43 rfl rfl rfl rfl rfl (by dsimp only [flatC, cellsL, List.toList_toArray, List.cons_append, List.nil_append, List.append_nil]) fun r14 => ?_)
  refine trl_eff (ef_call rfl rfl call22 (p_spots (lv := .slice (some ⟨r14, 0, none⟩) 1 1) rfl) (by repeat (first | with_reducible exact .nil | with_reducible exact .here | apply Picks.cons | apply Pick.there)) fun rl hx15 => ?_)
  dsimp only [List.cons_append, List.nil_append]
  refine trl_nil ?_
  refine Tr.fold (sl_of_pt (e := 43) (p := r14) (cells := [.pointer (some ⟨g.r, 0, none⟩)]) (n := 1) (sz := 1) rfl) (by repeat (first | with_reducible exact .nil | with_reducible exact .here | apply Picks.cons | apply Pick.there)) ?_
  refine tr_block ?_
  refine tr_range rfl call68 (p_spots_one (rl := rl) (g := g) hn hgv) (fun i => [pt r2 43 [.pointer (some ⟨g.r, 0, none⟩)], pt r3 3 [.int .i64 (count : Nat)], PB g (plI count bd i)]) (fun _ _ _ _ => heads_one (by with_reducible repeat constructor)) (fun _ => [pure' False]) (by repeat (first | with_reducible exact .nil | with_reducible exact .here | apply Picks.cons | apply Pick.there)) (fun i hi => rfl) ?_ ?_ ?_
  ·intro lp tm0 dfr i hi
   dsimp only
   obtain ⟨s, hs⟩ := get_some (l := bd.ss) (i := i) hi
   have hso := hB.ss s (List.mem_of_getElem? hs)
   have hpl := hso.b.len
   obtain ⟨sh0, hsh0, hsl⟩ := leaf0 hB.leaves (show 0 < bd.ss.length by omega)
   have hp0 := hB.p0
   have hp1 := hB.p1
   have hq0 := hso.b.pl0
   have hq1 := hso.b.pl1
   refine tr_region (trl_eff (ef_alloc zeroValue66 (by dsimp only [cellsL, List.toList_toArray]) fun r4 => ?_))
   refine trl_eff0 (ef_store_agg sizeOf66 rfl rfl rfl (by with_reducible repeat constructor) rfl ?_)
   refine trl_nil (tr_beginRound (by with_reducible repeat constructor) ?_)
   refine tr_block (tr_seq ?_)
   generalize hO : pobj lp (lobj _ tm0 _ _ _ dfr .busy none) = O
   refine tr_region (tas rfl (trl_nil (tr_seq (tr_block (tr_while (α := Nat) (0) (fun l => count - l) (fun l => [(2, .pointer (some ⟨r2, 0, none⟩)), (3, .pointer (some ⟨r3, 0, none⟩)), (4, .pointer (some ⟨r4, 0, none⟩)), (5, .int .i64 (l : Nat))]) (fun l => [pure' (l ≤ count ∧ firstOf s.b.ps.length count = firstL s.b.ps.length count (count - l) l), O, pt r4 66 [.pointer (some ⟨slBase g.v, i * 5, none⟩), .pointer (some ⟨g.r, 0, none⟩), .int .i64 (i : Nat)], pt r2 43 [.pointer (some ⟨g.r, 0, none⟩)], pt r3 3 [.int .i64 (count : Nat)], PB g (plI count bd i)]) (ks := [2,3,4,5]) (.cons rfl (.cons rfl (.cons rfl (.cons rfl .nil)))) (holds_pure ⟨Nat.zero_le _, rfl⟩ (holds_of_picks (by repeat (first | with_reducible exact .nil | with_reducible exact .here | apply Picks.cons | apply Pick.there)))) ?_)))))
   intro l base ih0
   refine Tr.pure fun ⟨hl, hf⟩ => ?_
   refine tr_seq (tr_seq (tr_region (tmv rfl (trl_val (rv_load isAgg3 rfl (by with_reducible repeat constructor) rfl) ?_))))
   refine trl_pv (pv_lss rfl rfl) (tmv rfl (trl_split 3 rfl (fun g20 => ?_) (fun g20 => ?_)))
   ·refine trl_valg rfl (decide_eq_true g20) (rv_load_agg isAgg66 sizeOf66 rfl (by with_reducible repeat constructor) rfl) ?_
    refine trl_valg rfl (decide_eq_true g20) (rv_load isAgg3 rfl (by with_reducible repeat constructor) rfl) ?_
    refine trl_pvg rfl (decide_eq_true g20) (pv_move rfl) (trl_effg rfl (decide_eq_true g20) (ef_call rfl rfl call24 (p_fresh (g := g) (bd := plI count bd i) (s := s) (k := i) (count := count) (layer := l) hs hpl hc hc2 (by omega)) (by repeat (first | with_reducible exact .nil | with_reducible exact .here | apply Picks.cons | apply Pick.there)) fun x24 hx24 => ?_))
    dsimp only [List.cons_append, List.nil_append]
    refine trl_pvg rfl (decide_eq_true g20) (pv_eql rfl rfl) (trl_pv (pv_pick_t rfl (decide_eq_true g20) rfl) (trl_nil (tr_keep (ks := [2,3,4,5,26]) (.cons rfl (.cons rfl (.cons rfl (.cons rfl (.cons rfl .nil))))) fun base => ?_)))
    refine tr_if rfl (fun h1 => ?_) (fun h1 => ?_)
    ·refine tr_skip (tr_block (tr_region (tmv rfl (trl_pv (pv_addI rfl rfl (by omega) (by omega)) ?_))))
     refine tas rfl (trl_nil (tr_inBlock (tr_again ih0 (l + 1) (by first | omega | (dsimp only; omega)) (.cons rfl (.cons rfl (.cons rfl (.cons (keep_int rfl (by omega)) .nil)))) (holds_pure ⟨by omega, firstOf_more hf (by omega) (by omega)⟩ (holds_of_picks (by repeat (first | with_reducible exact .nil | with_reducible exact .here | apply Picks.cons | apply Pick.there)))))))
    ·refine tr_exit rfl (tr_seq ?_)
     have hfo := firstOf_stop hf hl (.inr (by omega))
     have hfn : (firstNums count bd)[i]? = some (l : Int) := by simp [firstNums, hs, hfo]
     have hzn : (zeroNums bd)[i]? = some (max (bd.planes - s.b.pl) 0) := by simp [zeroNums, hs]
     have hf1 : (firstNums count bd).length = bd.ss.length := by simp [firstNums]
     have hz1 : (zeroNums bd).length = bd.ss.length := by simp [zeroNums]
     have hpf := partN_length (nums := firstNums count bd) (i := i) (by omega)
     have hpz := partN_length (nums := zeroNums bd) (i := i) (by omega)
     refine Tr.unfold pb_open (by with_reducible repeat constructor) fun _ hgl => ?_
     dsimp only [plI, List.cons_append, List.nil_append] at hgl ⊢
     refine tr_draww (rem := [0,1,2,3,4,5,6,7]) (by kernel_rfl) (by kernel_rfl) rfl ?_
     refine trw_pure 4 [5,7] rfl (by kernel_rfl) rfl (pv_fieldAddr runUnderlying66 rfl sizeOf3 rfl rfl) (twm 6 [7] rfl (by kernel_rfl) rfl rfl (trw_read 0 [1,2,3,7] rfl (by kernel_rfl) rfl (rv_load isAgg43 rfl (by with_reducible repeat constructor) rfl) ?_))
     refine twn 1 [2,3,7] rfl (by kernel_rfl) rfl rfl (trw_pure 2 [3,7] rfl (by kernel_rfl) rfl (pv_fieldAddr runUnderlying118 rfl sizeOf112 rfl rfl) (trw_read 3 [7] rfl (by kernel_rfl) rfl (rv_load isAgg112 rfl (by with_reducible repeat constructor) rfl) ?_))
     refine trw_read 5 [7] rfl (by kernel_rfl) rfl (rv_load isAgg3 rfl (by with_reducible repeat constructor) rfl) ?_
     refine trw_one 7 (by kernel_rfl) ?_
     refine trwat_eff rfl rfl rfl (ef_call rfl rfl call69 (tree_set (sh := bd.sh) (nums := partN (firstNums count bd) i) (k := i) (n := (l : Int)) hB.fine hsh0 (by omega) (by omega)) (by repeat (first | with_reducible exact .nil | with_reducible exact .here | apply Picks.cons | apply Pick.there)) fun x36 hx36 => ?_)
     dsimp only [List.cons_append, List.nil_append]
     refine ⟨?_, trivial⟩
     refine trw_nil ?_
     rw [partN_set hfn]
     refine tr_keep (ks := [2,4]) (.cons rfl (.cons rfl .nil)) fun base => ?_
     obtain ⟨gg, hgg⟩ := get_some (l := g.gs) (i := i) (by omega)
     refine tr_draww (rem := [0,1,2,3,4,5,6,7,8,9,10,11,12,13,14,15,16,17,18]) (by kernel_rfl) (by kernel_rfl) rfl ?_
     refine trw_pure 4 [5,18] rfl (by kernel_rfl) rfl (pv_fieldAddr runUnderlying66 rfl sizeOf3 rfl rfl) (trw_pure 10 [11,12,13,14,15,16,17,18] rfl (by kernel_rfl) rfl (pv_fieldAddr runUnderlying66 rfl sizeOf64 rfl rfl) (trw_read 0 [1,2,3,18] rfl (by kernel_rfl) rfl (rv_load isAgg43 rfl (by with_reducible repeat constructor) rfl) ?_))
     refine twn 1 [2,3,18] rfl (by kernel_rfl) rfl rfl (trw_pure 2 [3,18] rfl (by kernel_rfl) rfl (pv_fieldAddr runUnderlying118 rfl sizeOf112 rfl rfl) (trw_read 3 [18] rfl (by kernel_rfl) rfl (rv_load isAgg112 rfl (by with_reducible repeat constructor) rfl) ?_))
     refine trw_read 5 [18] rfl (by kernel_rfl) rfl (rv_load isAgg3 rfl (by with_reducible repeat constructor) rfl) ?_
     refine trw_read 6 [7,8,9,16,17,18] rfl (by kernel_rfl) rfl (rv_load isAgg43 rfl (by with_reducible repeat constructor) rfl) ?_
     refine twn 7 [8,9,16,17,18] rfl (by kernel_rfl) rfl rfl (trw_pure 8 [9,16,17,18] rfl (by kernel_rfl) rfl (pv_fieldAddr runUnderlying118 rfl sizeOf3 rfl rfl) (trw_read 9 [16,17,18] rfl (by kernel_rfl) rfl (rv_load isAgg3 rfl (by with_reducible repeat constructor) rfl) ?_))
     refine trw_read 11 [12,13,14,15,16,17,18] rfl (by kernel_rfl) rfl (rv_load isAgg64 rfl (by with_reducible repeat constructor) rfl) ?_
     refine twn 12 [13,14,15,16,17,18] rfl (by kernel_rfl) rfl rfl (trw_pure 13 [14,15,16,17,18] rfl (by kernel_rfl) rfl (pv_fieldAddr runUnderlying69 rfl sizeOf58 rfl rfl) (trw_pure 14 [15,16,17,18] rfl (by kernel_rfl) rfl (pv_fieldAddr runUnderlying58 rfl sizeOf3 rfl rfl) (trw_read 15 [16,17,18] rfl (by kernel_rfl) rfl (rv_load_sl isAgg3 rfl (by with_reducible repeat constructor) (sc_get hs hgg rfl)) ?_)))
     refine trw_pure 16 [17,18] rfl (by kernel_rfl) rfl (pv_subI rfl rfl (by show (-9223372036854775808 : Int) ≤ bd.planes - s.b.pl; omega) (by show bd.planes - s.b.pl ≤ (9223372036854775807 : Int); omega)) ?_
     refine trw_pure 17 [18] rfl (by kernel_rfl) rfl (pv_maxI rfl rfl) (trw_one 18 (by kernel_rfl) ?_)
     refine trwat_eff rfl rfl rfl (ef_call rfl rfl call69 (tree_set (sh := bd.sh) (nums := partN (zeroNums bd) i) (k := i) (n := max (bd.planes - s.b.pl) 0) hB.fine hsh0 (by omega) (by omega)) (by repeat (first | with_reducible exact .nil | with_reducible exact .here | apply Picks.cons | apply Pick.there)) fun x55 hx55 => ?_)
     dsimp only [List.cons_append, List.nil_append]
     refine ⟨?_, trivial⟩
     refine trw_nil ?_
     rw [partN_set hzn]
     refine Tr.fold (pb_fold (g := g) (bd := plI count bd (i + 1)) (r := g.r) (v := g.v) (p := bd.planes) (rF := g.rF) (rZ := g.rZ) (st := true) (sh := bd.sh) (n := bd.ss.length) (cs := scells bd.ss g.gs) (ss' := bd.ss) (T1 := mk0 (mins bd.sh (partN (firstNums count bd) (i + 1)))) (T2 := mk0 (mins bd.sh (partN (zeroNums bd) (i + 1)))) hgl rfl rfl rfl rfl rfl rfl rfl rfl rfl rfl rfl rfl) (by repeat (first | with_reducible exact .nil | with_reducible exact .here | apply Picks.cons | apply Pick.there)) ?_
     refine tr_keep (ks := []) (.nil) fun base => ?_
     refine tr_inBlock ?_
     subst hO
     dsimp only [plI]
     refine tr_round_end (by with_reducible repeat constructor) (holds_of_picks (by repeat (first | with_reducible exact .nil | with_reducible exact .here | apply Picks.cons | apply Pick.there)))
   ·refine trl_not rfl (decide_eq_false g20) ?_
    refine trl_not rfl (decide_eq_false g20) ?_
    refine trl_not rfl (decide_eq_false g20) ?_
    refine trl_not rfl (decide_eq_false g20) ?_
    refine trl_not rfl (decide_eq_false g20) ?_
    refine trl_pv (pv_pick_f rfl (decide_eq_false g20) rfl) (trl_nil (tr_keep (ks := [2,3,4,5,26]) (.cons rfl (.cons rfl (.cons rfl (.cons rfl (.cons rfl .nil))))) fun base => ?_))
    refine tr_else rfl rfl ?_
    refine tr_exit rfl (tr_seq ?_)
    have hfo := firstOf_stop hf hl (.inl (by omega))
    have hfn : (firstNums count bd)[i]? = some (l : Int) := by simp [firstNums, hs, hfo]
    have hzn : (zeroNums bd)[i]? = some (max (bd.planes - s.b.pl) 0) := by simp [zeroNums, hs]
    have hf1 : (firstNums count bd).length = bd.ss.length := by simp [firstNums]
    have hz1 : (zeroNums bd).length = bd.ss.length := by simp [zeroNums]
    have hpf := partN_length (nums := firstNums count bd) (i := i) (by omega)
    have hpz := partN_length (nums := zeroNums bd) (i := i) (by omega)
    refine Tr.unfold pb_open (by with_reducible repeat constructor) fun _ hgl => ?_
    dsimp only [plI, List.cons_append, List.nil_append] at hgl ⊢
    refine tr_draww (rem := [0,1,2,3,4,5,6,7]) (by kernel_rfl) (by kernel_rfl) rfl ?_
    refine trw_pure 4 [5,7] rfl (by kernel_rfl) rfl (pv_fieldAddr runUnderlying66 rfl sizeOf3 rfl rfl) (twm 6 [7] rfl (by kernel_rfl) rfl rfl (trw_read 0 [1,2,3,7] rfl (by kernel_rfl) rfl (rv_load isAgg43 rfl (by with_reducible repeat constructor) rfl) ?_))
    refine twn 1 [2,3,7] rfl (by kernel_rfl) rfl rfl (trw_pure 2 [3,7] rfl (by kernel_rfl) rfl (pv_fieldAddr runUnderlying118 rfl sizeOf112 rfl rfl) (trw_read 3 [7] rfl (by kernel_rfl) rfl (rv_load isAgg112 rfl (by with_reducible repeat constructor) rfl) ?_))
    refine trw_read 5 [7] rfl (by kernel_rfl) rfl (rv_load isAgg3 rfl (by with_reducible repeat constructor) rfl) ?_
    refine trw_one 7 (by kernel_rfl) ?_
    refine trwat_eff rfl rfl rfl (ef_call rfl rfl call69 (tree_set (sh := bd.sh) (nums := partN (firstNums count bd) i) (k := i) (n := (l : Int)) hB.fine hsh0 (by omega) (by omega)) (by repeat (first | with_reducible exact .nil | with_reducible exact .here | apply Picks.cons | apply Pick.there)) fun x36 hx36 => ?_)
    dsimp only [List.cons_append, List.nil_append]
    refine ⟨?_, trivial⟩
    refine trw_nil ?_
    rw [partN_set hfn]
    refine tr_keep (ks := [2,4]) (.cons rfl (.cons rfl .nil)) fun base => ?_
    obtain ⟨gg, hgg⟩ := get_some (l := g.gs) (i := i) (by omega)
    refine tr_draww (rem := [0,1,2,3,4,5,6,7,8,9,10,11,12,13,14,15,16,17,18]) (by kernel_rfl) (by kernel_rfl) rfl ?_
    refine trw_pure 4 [5,18] rfl (by kernel_rfl) rfl (pv_fieldAddr runUnderlying66 rfl sizeOf3 rfl rfl) (trw_pure 10 [11,12,13,14,15,16,17,18] rfl (by kernel_rfl) rfl (pv_fieldAddr runUnderlying66 rfl sizeOf64 rfl rfl) (trw_read 0 [1,2,3,18] rfl (by kernel_rfl) rfl (rv_load isAgg43 rfl (by with_reducible repeat constructor) rfl) ?_))
    refine twn 1 [2,3,18] rfl (by kernel_rfl) rfl rfl (trw_pure 2 [3,18] rfl (by kernel_rfl) rfl (pv_fieldAddr runUnderlying118 rfl sizeOf112 rfl rfl) (trw_read 3 [18] rfl (by kernel_rfl) rfl (rv_load isAgg112 rfl (by with_reducible repeat constructor) rfl) ?_))
    refine trw_read 5 [18] rfl (by kernel_rfl) rfl (rv_load isAgg3 rfl (by with_reducible repeat constructor) rfl) ?_
    refine trw_read 6 [7,8,9,16,17,18] rfl (by kernel_rfl) rfl (rv_load isAgg43 rfl (by with_reducible repeat constructor) rfl) ?_
    refine twn 7 [8,9,16,17,18] rfl (by kernel_rfl) rfl rfl (trw_pure 8 [9,16,17,18] rfl (by kernel_rfl) rfl (pv_fieldAddr runUnderlying118 rfl sizeOf3 rfl rfl) (trw_read 9 [16,17,18] rfl (by kernel_rfl) rfl (rv_load isAgg3 rfl (by with_reducible repeat constructor) rfl) ?_))
    refine trw_read 11 [12,13,14,15,16,17,18] rfl (by kernel_rfl) rfl (rv_load isAgg64 rfl (by with_reducible repeat constructor) rfl) ?_
    refine twn 12 [13,14,15,16,17,18] rfl (by kernel_rfl) rfl rfl (trw_pure 13 [14,15,16,17,18] rfl (by kernel_rfl) rfl (pv_fieldAddr runUnderlying69 rfl sizeOf58 rfl rfl) (trw_pure 14 [15,16,17,18] rfl (by kernel_rfl) rfl (pv_fieldAddr runUnderlying58 rfl sizeOf3 rfl rfl) (trw_read 15 [16,17,18] rfl (by kernel_rfl) rfl (rv_load_sl isAgg3 rfl (by with_reducible repeat constructor) (sc_get hs hgg rfl)) ?_)))
    refine trw_pure 16 [17,18] rfl (by kernel_rfl) rfl (pv_subI rfl rfl (by show (-9223372036854775808 : Int) ≤ bd.planes - s.b.pl; omega) (by show bd.planes - s.b.pl ≤ (9223372036854775807 : Int); omega)) ?_
    refine trw_pure 17 [18] rfl (by kernel_rfl) rfl (pv_maxI rfl rfl) (trw_one 18 (by kernel_rfl) ?_)
    refine trwat_eff rfl rfl rfl (ef_call rfl rfl call69 (tree_set (sh := bd.sh) (nums := partN (zeroNums bd) i) (k := i) (n := max (bd.planes - s.b.pl) 0) hB.fine hsh0 (by omega) (by omega)) (by repeat (first | with_reducible exact .nil | with_reducible exact .here | apply Picks.cons | apply Pick.there)) fun x55 hx55 => ?_)
    dsimp only [List.cons_append, List.nil_append]
    refine ⟨?_, trivial⟩
    refine trw_nil ?_
    rw [partN_set hzn]
    refine Tr.fold (pb_fold (g := g) (bd := plI count bd (i + 1)) (r := g.r) (v := g.v) (p := bd.planes) (rF := g.rF) (rZ := g.rZ) (st := true) (sh := bd.sh) (n := bd.ss.length) (cs := scells bd.ss g.gs) (ss' := bd.ss) (T1 := mk0 (mins bd.sh (partN (firstNums count bd) (i + 1)))) (T2 := mk0 (mins bd.sh (partN (zeroNums bd) (i + 1)))) hgl rfl rfl rfl rfl rfl rfl rfl rfl rfl rfl rfl rfl) (by repeat (first | with_reducible exact .nil | with_reducible exact .here | apply Picks.cons | apply Pick.there)) ?_
    refine tr_keep (ks := []) (.nil) fun base => ?_
    refine tr_inBlock ?_
    subst hO
    dsimp only [plI]
    refine tr_round_end (by with_reducible repeat constructor) (holds_of_picks (by repeat (first | with_reducible exact .nil | with_reducible exact .here | apply Picks.cons | apply Pick.there)))
  ·intro r0
   dsimp only [List.cons_append, List.nil_append]
   refine tr_inBlock ?_
   rw [plI_all h00]
   refine tr_end func23 rfl (by repeat (first | with_reducible exact .here | apply Pick.there | exact .nil | apply Picks.cons)) (by kernel_rfl) .nil () rfl trivial (holds_of_picks (by repeat (first | with_reducible exact .nil | with_reducible exact .here | apply Picks.cons | apply Pick.there)))
  ·intro r0 c
   dsimp only [List.cons_append, List.nil_append]
   refine Tr.pick (A := pure' False) (by with_reducible repeat constructor) (Tr.pure fun h => h.elim)
end Go.Proofs
