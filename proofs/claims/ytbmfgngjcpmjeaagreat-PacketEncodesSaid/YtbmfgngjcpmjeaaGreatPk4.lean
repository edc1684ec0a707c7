/- Contracts of functions that the law reaches, in every memory (part Pk4). -/
import Derived.Test.YtbmfgngjcpmjeaaGreatPk3
import Derived.Test.YtbmfgngjcpmjeaaGreatPlainC
set_option linter.unusedVariables false
set_option linter.unusedSimpArgs false
set_option maxRecDepth 10000
namespace Go.Proofs
open Go.Eng Tryz
theorem reads_pb {g : Gd} {bd : Bd} {L M : List SL} {k i j : Nat} {s : Bs} {gg : Value × Value} {vs : List Value} (hp : Pick (PB g bd) L M) (hs : bd.ss[k]? = some s) (hgg : g.gs[k]? = some gg) (h1 : i ≤ j) (h2 : j ≤ s.b.bys.length)
    (hc : ((u8s s.b.bys).drop (i * 1)).take ((j - i) * 1) = vs) : Reads Tryz.prog 1 (j - i) (subV gg.2 i j 1) L vs := by
  intro F w hw
  obtain ⟨_, hgl, h⟩ := pb_open F w M (hw.perm hp.perm)
  have h := Holds.perm h (Pick.perm (A := SLs (BP 142 5) g.gs bd.ss) (.there (.there .here)))
  obtain ⟨_, _, h⟩ := sls_open hgg hs F w _ h
  obtain ⟨_, _, h⟩ := bp_open F w _ h
  exact reads_sub (.there .here) h1 h2 hc F w h
theorem pb_len {g : Gd} {bd : Bd} {L M : List SL} (hp : Pick (PB g bd) L M) {F : Fm} {w : World} (hw : Holds L F w) : g.gs.length = bd.ss.length := by
  obtain ⟨_, h, _⟩ := pb_open F w M (hw.perm hp.perm)
  exact h
theorem heads_sls {G : List Gd} {bds : List Bd} {L M : List SL} (hp : Pick (SLs PB G bds) L M) (hl : bds.length = G.length) : HeadsRd G L := by
  intro j g hg
  obtain ⟨bd, hb⟩ := get_some (l := bds) (i := j) (by have := (List.getElem?_eq_some_iff.1 hg).1; omega)
  exact Rd.unfold (sls_open hg hb) hp fun _ _ => rd_pb .here
theorem sls_slv {G : List Gd} {bds : List Bd} {L M : List SL} (hp : Pick (SLs PB G bds) L M) {F : Fm} {w : World} (hw : Holds L F w) : ∀ (j : Nat) (g : Gd) (n : Nat), G[j]? = some g → (counts bds)[j]? = some n → SlV g.v n := by
  intro j g n hg hn
  simp only [counts, List.getElem?_map, Option.map_eq_some_iff] at hn
  obtain ⟨bd, hb, rfl⟩ := hn
  obtain ⟨_, _, h⟩ := sls_open hg hb F w _ (hw.perm hp.perm)
  obtain ⟨_, _, h⟩ := pb_open F w _ h
  exact SlV.of (Holds.perm h (Pick.perm (A := Sl 69 5 bd.ss.length g.v (scells bd.ss g.gs)) (.there .here)))
theorem p_body {g : Gd} {bd : Bd} {s : Bs} {k to : Nat} {gg : Value × Value} (hs : bd.ss[k]? = some s) (hgg : g.gs[k]? = some gg) (hso : BsOk s) (ht1 : s.said < to) (ht2 : to ≤ s.b.ps.length) : Spec Tryz.prog 30 [.agg #[.pointer (some ⟨slBase g.v, k * 5, none⟩), .pointer (some ⟨g.r, 0, none⟩), .int .i64 (k : Nat)], .int .i64 (to : Nat)] [PB g bd]
    (fun _ : Unit => ⟨subV gg.2 (was0 s.said (endsOf s.b)).toNat ((endsOf s.b).getD (to - 1) 0).toNat 1, True, [PB g bd]⟩) := by
 refine spec_of_tr func30 rfl ntmps30 (by kernel_rfl) ?_
 have hsl := hso.b.len
 have hss := hso.said
 have hw1 := was0_le hso.b ht1 ht2
 have hw0 := hso.b.ends.was0 s.said
 have hw2 := hso.b.le (to - 1) (by omega)
 have hw3 := hso.b.size
 refine tr_seq (tr_region (trl_eff (ef_box rfl (by dsimp only [cellsL, List.toList_toArray]) fun r2 => ?_)))
 refine tas rfl (trl_nil (tr_seq (tr_region (trl_val (rv_load_agg isAgg66 sizeOf66 rfl (by with_reducible repeat constructor) rfl) ?_))))
 refine trl_eff (ef_call rfl rfl call76 (p_ends_of (g := g) (bd := bd) (s := s) (k := k) hs hso.b.len) (by repeat (first | with_reducible exact .nil | with_reducible exact .here | apply Picks.cons | apply Pick.there)) fun v8 ho8 => ?_)
 dsimp only [List.cons_append, List.nil_append]
 refine tas rfl (trl_nil ?_)
 refine Tr.unfold pb_open (by with_reducible repeat constructor) fun _ hgl => ?_
 dsimp only [List.cons_append, List.nil_append]
 refine Tr.unfold (sls_open hgg hs) (by with_reducible repeat constructor) fun _ _ => ?_
 dsimp only [List.cons_append, List.nil_append]
 refine Tr.unfold bp_open (by exact .here) fun _ _ => ?_
 dsimp only [List.cons_append, List.nil_append]
 refine tr_seq (tr_region (tas rfl (trl_nil (tr_seq (tr_seq (tr_region (trl_pv (pv_fieldAddr runUnderlying66 rfl sizeOf64 rfl rfl) (trl_val (rv_load isAgg64 rfl (by with_reducible repeat constructor) rfl) ?_))))))))
 refine tnc rfl (trl_pv (pv_fieldAddr runUnderlying69 rfl sizeOf3 rfl rfl) (trl_val (rv_load_sl isAgg3 rfl (by with_reducible repeat constructor) (sc_said hs hgg)) ?_))
 refine trl_pv (pv_gtr rfl rfl) (trl_nil (tr_keep (ks := [1,2,5,6,14]) (.cons rfl (.cons rfl (.cons rfl (.cons rfl (.cons rfl .nil))))) fun base => ?_))
 refine tr_join (α := Unit) (fun _ => [(1, .int .i64 (to : Nat)), (2, .pointer (some ⟨r2, 0, none⟩)), (5, v8), (6, .int .i64 (was0 s.said (endsOf s.b)))]) (fun _ => [pt r2 66 [.pointer (some ⟨slBase g.v, k * 5, none⟩), .pointer (some ⟨g.r, 0, none⟩), .int .i64 (k : Nat)], pt g.r 118 [g.v, .int .i64 bd.planes, .pointer (some ⟨g.rF, 0, none⟩), .pointer (some ⟨g.rZ, 0, none⟩), .bool bd.set], Sl 69 5 bd.ss.length g.v (scells bd.ss g.gs), Sl 142 2 s.b.ps.length gg.1 (passC s.b.ps), Sl 5 1 s.b.bys.length gg.2 (u8s s.b.bys), SLs (BP 142 5) (g.gs.eraseIdx k) (bd.ss.eraseIdx k), PT g.rF bd.sh bd.first, PT g.rZ bd.sh bd.zeros, Sl 3 1 (endsOf s.b).length v8 (i64s (endsOf s.b))]) (fun K0 hK0 => ?_) ?_
 ·refine tr_if rfl (fun h0 => ?_) (fun h0 => ?_)
  ·refine tr_region (tmv rfl (trl_pv (pv_fieldAddr runUnderlying66 rfl sizeOf64 rfl rfl) (trl_val (rv_load isAgg64 rfl (by with_reducible repeat constructor) rfl) ?_)))
   refine tnc rfl (trl_pv (pv_fieldAddr runUnderlying69 rfl sizeOf3 rfl rfl) (trl_val (rv_load_sl isAgg3 rfl (by with_reducible repeat constructor) (sc_said hs hgg)) ?_))
   refine trl_pv (pv_conv (pv_subI rfl rfl (by show (-9223372036854775808 : Int) ≤ (s.said : Int) - 1; omega) (by show (s.said : Int) - 1 ≤ (9223372036854775807 : Int); omega)) (congrArg (Value.int .i64) (show (s.said : Int) - 1 = ((s.said - 1 : Nat) : Int) from by omega))) ?_
   refine trl_val (rv_indexAddr_sl runUnderlying38 sizeOf3 rfl rfl (by with_reducible repeat constructor) (by omega) (by rw [endsOf_length]; omega)) ?_
   refine trl_val (rv_load_sl isAgg3 rfl (by with_reducible repeat constructor) (idx1 (i64s_getD (by rw [endsOf_length]; omega)))) ?_
   refine tas rfl (trl_nil (tr_keep (ks := [1,2,5,6]) (.cons rfl (.cons rfl (.cons rfl (.cons rfl .nil)))) fun base => ?_))
   refine tr_meet hK0 () (.cons rfl (.cons rfl (.cons rfl (.cons (keep_int rfl (show _ = was0 s.said (endsOf s.b) from by unfold was0; rw [if_pos (by omega)])) .nil)))) (holds_of_picks (by repeat (first | with_reducible exact .nil | with_reducible exact .here | apply Picks.cons | apply Pick.there)))
  ·refine tr_skip (tr_meet hK0 () (.cons rfl (.cons rfl (.cons rfl (.cons (keep_int rfl (show _ = was0 s.said (endsOf s.b) from by unfold was0; rw [if_neg (by omega)])) .nil)))) (holds_of_picks (by repeat (first | with_reducible exact .nil | with_reducible exact .here | apply Picks.cons | apply Pick.there))))
 ·intro y base
  refine tr_seq (tr_draww (rem := [0,1,2,3,4,5,6,7,8,9,10,11,12,13,14,15,16,17,18,19,20,21,22,23,24,25,26,27,28,29,30,31]) (by kernel_rfl) (by kernel_rfl) rfl ?_)
  refine trw_pure 0 [1,2,3,4,5,30,31] rfl (by kernel_rfl) rfl (pv_fieldAddr runUnderlying66 rfl sizeOf64 rfl rfl) (twm 6 [14,30,31] rfl (by kernel_rfl) rfl rfl (trw_pure 7 [8,9,10,11,12,13,14,30,31] rfl (by kernel_rfl) rfl (pv_fieldAddr runUnderlying66 rfl sizeOf64 rfl rfl) (twm 15 [18,19,21,29,30,31] rfl (by kernel_rfl) rfl rfl (twm 16 [17,18,19,21,29,30,31] rfl (by kernel_rfl) rfl rfl (trw_pure 17 [18,19,21,29,30,31] rfl (by kernel_rfl) rfl (pv_conv (pv_subI rfl rfl (by omega) (by omega)) (congrArg (Value.int .i64) (show (to : Int) - 1 = ((to - 1 : Nat) : Int) from by omega))) ?_)))))
  refine twm 20 [21,29,30,31] rfl (by kernel_rfl) rfl rfl (trw_pure 22 [23,24,25,26,27,28,29,30,31] rfl (by kernel_rfl) rfl (pv_fieldAddr runUnderlying66 rfl sizeOf64 rfl rfl) (trw_read 1 [2,3,4,5,30,31] rfl (by kernel_rfl) rfl (rv_load isAgg64 rfl (by with_reducible repeat constructor) rfl) ?_))
  refine twn 2 [3,4,5,30,31] rfl (by kernel_rfl) rfl rfl (trw_pure 3 [4,5,30,31] rfl (by kernel_rfl) rfl (pv_fieldAddr runUnderlying69 rfl sizeOf58 rfl rfl) (trw_pure 4 [5,30,31] rfl (by kernel_rfl) rfl (pv_fieldAddr runUnderlying58 rfl sizeOf30 rfl rfl) (trw_read 5 [30,31] rfl (by kernel_rfl) rfl (rv_load_sl isAgg30 rfl (by with_reducible repeat constructor) (sc_bv hs hgg)) ?_)))
  refine trw_read 8 [9,10,11,12,13,14,30,31] rfl (by kernel_rfl) rfl (rv_load isAgg64 rfl (by with_reducible repeat constructor) rfl) ?_
  refine twn 9 [10,11,12,13,14,30,31] rfl (by kernel_rfl) rfl rfl (trw_pure 10 [11,12,13,14,30,31] rfl (by kernel_rfl) rfl (pv_fieldAddr runUnderlying69 rfl sizeOf58 rfl rfl) (trw_pure 11 [12,13,14,30,31] rfl (by kernel_rfl) rfl (pv_fieldAddr runUnderlying58 rfl sizeOf30 rfl rfl) (trw_read 12 [13,14,30,31] rfl (by kernel_rfl) rfl (rv_load_sl isAgg30 rfl (by with_reducible repeat constructor) (sc_bv hs hgg)) ?_)))
  refine trw_read 13 [14,30,31] rfl (by kernel_rfl) rfl (rv_len_sl runUnderlying30 rfl (by with_reducible repeat constructor)) ?_
  refine trw_pure 14 [30,31] rfl (by kernel_rfl) rfl (pv_conv (pv_minI rfl rfl) (congrArg (Value.int .i64) (show min (was0 s.said (endsOf s.b)) (s.b.bys.length : Int) = (was0 s.said (endsOf s.b)) from by omega))) (trw_read 18 [19,21,29,30,31] rfl (by kernel_rfl) rfl (rv_indexAddr_sl runUnderlying38 sizeOf3 rfl rfl (by with_reducible repeat constructor) (by omega) (by rw [endsOf_length]; omega)) ?_)
  refine trw_read 19 [21,29,30,31] rfl (by kernel_rfl) rfl (rv_load_sl isAgg3 rfl (by with_reducible repeat constructor) (idx1 (i64s_getD (by rw [endsOf_length]; omega)))) ?_
  refine trw_pure 21 [29,30,31] rfl (by kernel_rfl) rfl (pv_conv (pv_maxI rfl rfl) (congrArg (Value.int .i64) (show max ((endsOf s.b).getD (to - 1) 0) (was0 s.said (endsOf s.b)) = ((endsOf s.b).getD (to - 1) 0) from by omega))) (trw_read 23 [24,25,26,27,28,29,30,31] rfl (by kernel_rfl) rfl (rv_load isAgg64 rfl (by with_reducible repeat constructor) rfl) ?_)
  refine twn 24 [25,26,27,28,29,30,31] rfl (by kernel_rfl) rfl rfl (trw_pure 25 [26,27,28,29,30,31] rfl (by kernel_rfl) rfl (pv_fieldAddr runUnderlying69 rfl sizeOf58 rfl rfl) (trw_pure 26 [27,28,29,30,31] rfl (by kernel_rfl) rfl (pv_fieldAddr runUnderlying58 rfl sizeOf30 rfl rfl) (trw_read 27 [28,29,30,31] rfl (by kernel_rfl) rfl (rv_load_sl isAgg30 rfl (by with_reducible repeat constructor) (sc_bv hs hgg)) ?_)))
  refine trw_read 28 [29,30,31] rfl (by kernel_rfl) rfl (rv_len_sl runUnderlying30 rfl (by with_reducible repeat constructor)) ?_
  refine trw_pure 29 [30,31] rfl (by kernel_rfl) rfl (pv_conv (pv_minI rfl rfl) (congrArg (Value.int .i64) (show min ((endsOf s.b).getD (to - 1) 0) (s.b.bys.length : Int) = ((endsOf s.b).getD (to - 1) 0) from by omega))) (trw_read 30 [31] rfl (by kernel_rfl) rfl (rv_slice_sl runUnderlying30 sizeOf5 rfl (by with_reducible repeat constructor) rfl rfl (by omega) (by omega) (by omega)) ?_)
  refine trw_pure 31 [] rfl (by kernel_rfl) rfl (pv_assign rfl) (trw_nil (tr_keep (ks := [4]) (.cons rfl .nil) fun base => ?_))
  refine Tr.fold (bp_fold (tp := 142) (tb := 5) (g := gg) (s := s)) (by repeat (first | with_reducible exact .nil | with_reducible exact .here | apply Picks.cons | apply Pick.there)) ?_
  refine Tr.fold (sls_fold (A := BP 142 5) hgg hs) (by repeat (first | with_reducible exact .nil | with_reducible exact .here | apply Picks.cons | apply Pick.there)) ?_
  refine Tr.fold (pb_fold (g := g) (bd := bd) hgl rfl rfl rfl rfl rfl rfl rfl rfl rfl rfl rfl rfl) (by repeat (first | with_reducible exact .nil | with_reducible exact .here | apply Picks.cons | apply Pick.there)) ?_
  refine tr_ret func30 rfl .nil (by kernel_rfl) (.tmp rfl .nil) () rfl trivial (holds_of_picks (by repeat (first | with_reducible exact .nil | with_reducible exact .here | apply Picks.cons | apply Pick.there)))
theorem p_encode {lv : Value} {G : List Gd} {bds : List Bd} {style : Int} {count layer : Nat} (hG : G.length ≤ 1000) (hGl : bds.length = G.length) (hB : ∀ bd ∈ bds, BdOk bd) (hN : ∀ n ∈ counts bds, n ≤ 1000) (hN2 : (spotsL (counts bds) 0).length ≤ 100) (hc : 1 ≤ count) (hc2 : count ≤ 100) (hl : layer ≤ 100) (hlv : one? lv = true) :
    Spec Tryz.prog 10 [lv, .int .i64 style, .int .i64 (count : Nat), .int .i64 (layer : Nat)] [Sl 43 1 G.length lv (G.map fun g => Value.pointer (some ⟨g.r, 0, none⟩)), SLs PB G bds]
    (fun x : Value × Value => ⟨.tuple #[x.1, x.2], one? x.1 = true ∧ one? x.2 = true, [Sl 43 1 G.length lv (G.map fun g => Value.pointer (some ⟨g.r, 0, none⟩)), SLs PB G (encF style count layer bds).bds, Sl 5 1 (pack (encF style count layer bds).bits).length x.1 (u8s (pack (encF style count layer bds).bits)), Sl 5 1 (encF style count layer bds).body.length x.2 (u8s (encF style count layer bds).body)]⟩) := by
 refine spec_of_tr func10 rfl ntmps10 (by kernel_rfl) ?_
 have hself := BdsOk.self hB
 have hcl : (counts bds).length = G.length := by simp [counts, hGl]
 refine Tr.fact (fun F w hw => sls_slv (G := G) (bds := bds) (by with_reducible repeat constructor) hw) fun hslv => ?_
 refine tr_seq (tr_region (trl_eff (ef_box rfl (by dsimp only [cellsL, List.toList_toArray]) fun r5 => ?_)))
 refine trl_eff (ef_box rfl (by dsimp only [cellsL, List.toList_toArray]) fun r6 => ?_)
 refine trl_eff (ef_box rfl (by dsimp only [cellsL, List.toList_toArray]) fun r7 => ?_)
 refine tas rfl (trl_eff (ef_alloc zeroValue30 (by dsimp only [cellsL, List.toList_toArray]) fun r9 => ?_))
 refine trl_nil (tr_seq (tr_region (trl_eff (ef_alloc zeroValue4 (by dsimp only [cellsL, List.toList_toArray]) fun r10 => ?_))))
 refine trl_eff0 (ef_store sizeOf4 rfl rfl (by first | rfl | assumption) (by with_reducible repeat constructor) rfl ?_)
 refine trl_nil (tr_seq (tr_seq (tr_region (tmv rfl (trl_eff (ef_call rfl rfl call22 (p_spots hlv) (by repeat (first | with_reducible exact .nil | with_reducible exact .here | apply Picks.cons | apply Pick.there)) fun rl hx16 => ?_))))))
 dsimp only [List.cons_append, List.nil_append]
 refine trl_nil ?_
 rw [show pt r10 4 [.bool false] = pt r10 4 [.bool (((spotsL (counts bds) 0).take 0).any (moreAt count layer bds))] from rfl, show SLs PB G bds = SLs PB G (((spotsL (counts bds) 0).take 0).foldl (plantStep count) bds) from rfl]
 refine tr_block ?_
 refine tr_range rfl call68 (p_spots1 (rl := rl) (lv := lv) (G := G) (ns := counts bds) hG hcl (fun n hn => Nat.le_trans (hN n hn) (by omega)) hslv) (fun i => [pt r5 3 [.int .i64 style], pt r6 3 [.int .i64 (count : Nat)], pt r7 3 [.int .i64 (layer : Nat)], pt r10 4 [.bool (((spotsL (counts bds) 0).take i).any (moreAt count layer bds))], SLs PB G (((spotsL (counts bds) 0).take i).foldl (plantStep count) bds)]) (fun _ _ i _ => heads_sls (by with_reducible repeat constructor) (by have := (plantN_ok (count := count) ((spotsL (counts bds) 0).take i) hself).1; rw [hcl] at this; exact this)) (fun _ => [pure' False]) (by repeat (first | with_reducible exact .nil | with_reducible exact .here | apply Picks.cons | apply Pick.there)) (fun i hi => rfl) ?_ ?_ ?_
 ·intro lp tm0 dfr i hi
  dsimp only
  obtain ⟨⟨j, k⟩, hx⟩ := get_some (l := (spotsL (counts bds) 0)) (i := i) hi
  obtain ⟨-, n, hn, hk⟩ := spots_mem hx
  rw [Nat.sub_zero] at hn
  rw [List.getD_eq_getElem?_getD (l := (spotsL (counts bds) 0)), hx]
  dsimp only [Option.getD_some]
  obtain ⟨g, hg⟩ := get_some (l := G) (i := j) (by have := (List.getElem?_eq_some_iff.1 hn).1; simp [counts] at this; omega)
  rw [List.getD_eq_getElem?_getD (l := G), hg]
  dsimp only [Option.getD_some]
  have hspl := hN2
  obtain ⟨bd, s, hbd, hs, hBd, hso⟩ := (plantN_ok (count := count) ((spotsL (counts bds) 0).take i) hself).at hn hk
  obtain ⟨bd0, hbd0, hss0, -⟩ := plantN_get _ hbd
  have hns0 := hN n (List.mem_of_getElem? hn)
  have hlt := (List.getElem?_eq_some_iff.1 hbd).1
  have hn2 := ((plantN_ok (count := count) ((spotsL (counts bds) 0).take i) hself).2 j bd hbd).2
  rw [hn] at hn2
  injection hn2 with hn2
  refine tr_region (trl_eff (ef_alloc zeroValue66 (by dsimp only [cellsL, List.toList_toArray]) fun r11 => ?_))
  refine trl_eff0 (ef_store_agg sizeOf66 rfl rfl rfl (by with_reducible repeat constructor) rfl ?_)
  refine trl_nil (tr_keep (ks := [6,7,10,11]) (.cons rfl (.cons rfl (.cons rfl (.cons rfl .nil)))) fun base => ?_)
  refine tr_beginRound (by with_reducible repeat constructor) ?_
  refine tr_block (tr_seq ?_)
  refine Tr.unfold (sls_open hg hbd) (by with_reducible repeat constructor) fun _ _ => ?_
  dsimp only [List.cons_append, List.nil_append]
  refine tr_region (trl_pv (pv_fieldAddr runUnderlying66 rfl sizeOf43 rfl rfl) (trl_val (rv_load isAgg43 rfl (by with_reducible repeat constructor) rfl) ?_))
  refine trl_val (rv_load isAgg3 rfl (by with_reducible repeat constructor) rfl) ?_
  refine trl_eff (ef_call rfl rfl call23 (p_plant (g := g) (bd := bd) hBd hc hc2 (by omega)) (by repeat (first | with_reducible exact .nil | with_reducible exact .here | apply Picks.cons | apply Pick.there)) fun x21 hx21 => ?_)
  dsimp only [List.cons_append, List.nil_append]
  refine trl_nil ?_
  have hs2 : (plantF count bd).ss[k]? = some s := by rw [plantF_ss]; exact hs
  refine tr_draww (rem := [0,1,2,3,4,5,6,7,8,9,10,11,12,13]) (by kernel_rfl) (by kernel_rfl) rfl ?_
  refine trw_read 0 [1,2,3,4,5,6,7,8,9,10,11,12,13] rfl (by kernel_rfl) rfl (rv_load isAgg4 rfl (by with_reducible repeat constructor) rfl) ?_
  refine twm 1 [2,3,4,5,6,7,8,9,10,11,12,13] rfl (by kernel_rfl) rfl rfl (trw_splitb 1 rfl (fun g23 => ?_) (fun g23 => ?_))
  ·refine trw_not 2 [5,11,12,13] rfl rfl g23 (by kernel_rfl) rfl ?_
   refine trw_not 3 [5,11,12,13] rfl rfl g23 (by kernel_rfl) rfl ?_
   refine trw_not 4 [5,11,12,13] rfl rfl g23 (by kernel_rfl) rfl ?_
   refine trw_not 5 [11,12,13] rfl rfl g23 (by kernel_rfl) rfl ?_
   refine trw_not 6 [7,8,9,10,11,12,13] rfl rfl g23 (by kernel_rfl) rfl ?_
   refine trw_not 7 [8,9,10,11,12,13] rfl rfl g23 (by kernel_rfl) rfl ?_
   refine trw_not 8 [9,10,11,12,13] rfl rfl g23 (by kernel_rfl) rfl ?_
   refine trw_not 9 [10,11,12,13] rfl rfl g23 (by kernel_rfl) rfl ?_
   refine trw_not 10 [11,12,13] rfl rfl g23 (by kernel_rfl) rfl ?_
   refine trw_not 11 [12,13] rfl rfl g23 (by kernel_rfl) rfl ?_
   refine trw_pure 12 [13] rfl (by kernel_rfl) rfl (pv_pick_t rfl g23 rfl) (trw_one 13 (by kernel_rfl) ?_)
   refine trwat_eff0 rfl rfl rfl (ef_store sizeOf4 rfl rfl (by first | rfl | assumption) (by with_reducible repeat constructor) rfl ?_)
   refine ⟨?_, trivial⟩
   refine trw_nil ?_
   refine Tr.fold (sls_put (A := PB) hg hlt) (by repeat (first | with_reducible exact .nil | with_reducible exact .here | apply Picks.cons | apply Pick.there)) ?_
   refine tr_keep (ks := []) (.nil) fun base => ?_
   refine tr_inBlock (tr_round_end (by with_reducible repeat constructor) (by (try dsimp only [if_true]); rw [foldl_take hx, plantStep_eq hbd, any_take hx, g23, Bool.true_or]; exact holds_of_picks (by repeat (first | with_reducible exact .nil | with_reducible exact .here | apply Picks.cons | apply Pick.there))))
  ·refine trw_pureg 6 [7,8,9,10,11,12,13] rfl rfl g23 (by kernel_rfl) rfl (pv_fieldAddr runUnderlying66 rfl sizeOf64 rfl rfl) ?_
   refine trw_readg 2 [5,11,12,13] rfl rfl g23 (by kernel_rfl) rfl (rv_load_agg isAgg66 sizeOf66 rfl (by with_reducible repeat constructor) rfl) ?_
   refine trw_readg 3 [5,11,12,13] rfl rfl g23 (by kernel_rfl) rfl (rv_load isAgg3 rfl (by with_reducible repeat constructor) rfl) ?_
   refine trw_readg 4 [5,11,12,13] rfl rfl g23 (by kernel_rfl) rfl (rv_load isAgg3 rfl (by with_reducible repeat constructor) rfl) ?_
   refine trw_readg 7 [8,9,10,11,12,13] rfl rfl g23 (by kernel_rfl) rfl (rv_load isAgg64 rfl (by with_reducible repeat constructor) rfl) ?_
   refine trw_pureg 8 [9,10,11,12,13] rfl rfl g23 (by kernel_rfl) rfl (pv_nilCheck rfl) ?_
   refine trw_pureg 9 [10,11,12,13] rfl rfl g23 (by kernel_rfl) rfl (pv_fieldAddr runUnderlying69 rfl sizeOf3 rfl rfl) ?_
   refine trw_readg 10 [11,12,13] rfl rfl g23 (by kernel_rfl) rfl (rv_pb (bd := plantF count bd) (u := .int .i64 (s.said : Int)) isAgg3 rfl (by with_reducible repeat constructor) hs2 (fun _ => rfl)) ?_
   refine trw_one 5 (by kernel_rfl) ?_
   refine trwat_effg rfl rfl g23 rfl rfl (ef_call rfl rfl call24 (p_fresh (g := g) (bd := plantF count bd) (s := s) (k := k) (count := count) (layer := layer) hs2 hso.b.len hc hc2 (by omega)) (by repeat (first | with_reducible exact .nil | with_reducible exact .here | apply Picks.cons | apply Pick.there)) fun x27 hx27 => ?_)
   dsimp only [List.cons_append, List.nil_append]
   refine ⟨?_, (rv_pb (bd := plantF count bd) (u := .int .i64 (s.said : Int)) isAgg3 rfl (by with_reducible repeat constructor) hs2 (fun _ => rfl)), (rv_load isAgg64 rfl (by with_reducible repeat constructor) rfl), trivial⟩
   refine trw_pureg 11 [12,13] rfl rfl g23 (by kernel_rfl) rfl (pv_gtr rfl rfl) ?_
   refine trw_pure 12 [13] rfl (by kernel_rfl) rfl (pv_pick_f rfl g23 rfl) (trw_one 13 (by kernel_rfl) ?_)
   refine trwat_eff0 rfl rfl rfl (ef_store sizeOf4 rfl rfl (by first | rfl | assumption) (by with_reducible repeat constructor) rfl ?_)
   refine ⟨?_, trivial⟩
   refine trw_nil ?_
   refine Tr.fold (sls_put (A := PB) hg hlt) (by repeat (first | with_reducible exact .nil | with_reducible exact .here | apply Picks.cons | apply Pick.there)) ?_
   refine tr_keep (ks := []) (.nil) fun base => ?_
   refine tr_inBlock (tr_round_end (by with_reducible repeat constructor) (by (try dsimp only [if_true]); rw [foldl_take hx, plantStep_eq hbd, any_take hx, g23, Bool.false_or, show moreAt count layer bds (j, k) = decide ((s.said : Int) < (passesF s.b.ps.length count (layer + 1) : Nat)) from by unfold moreAt; dsimp only; rw [hbd0]; dsimp only; rw [← hss0, hs]; dsimp only; rw [Bool.eq_iff_iff]; simp]; exact holds_of_picks (by repeat (first | with_reducible exact .nil | with_reducible exact .here | apply Picks.cons | apply Pick.there))))
 ·intro r0
  dsimp only [List.cons_append, List.nil_append]
  rw [List.take_length, show (spotsL (counts bds) 0).any (moreAt count layer bds) = anyMore count layer bds from rfl, show (spotsL (counts bds) 0).foldl (plantStep count) bds = planted count bds from rfl]
  refine tr_inBlock (tr_seq (tr_region (trl_eff (ef_call rfl rfl call25 (wp_new) (by repeat (first | with_reducible exact .nil | with_reducible exact .here | apply Picks.cons | apply Pick.there)) fun w hx35 => ?_))))
  dsimp only [List.cons_append, List.nil_append]
  refine trl_eff (ef_alloc zeroValue70 (by dsimp only [cellsL, List.toList_toArray]) fun r12 => ?_)
  refine trl_eff0 (ef_store sizeOf70 rfl rfl (by first | rfl | assumption) (by with_reducible repeat constructor) rfl ?_)
  refine trl_nil (tr_keep (ks := [0,5,6,7,9,10,12]) (.cons rfl (.cons rfl (.cons rfl (.cons rfl (.cons rfl (.cons rfl (.cons rfl .nil))))))) fun base => ?_)
  refine tr_seq (tr_draww (rem := [0,1,2,3]) (by kernel_rfl) (by kernel_rfl) rfl ?_)
  refine trw_read 0 [3] rfl (by kernel_rfl) rfl (rv_load isAgg70 rfl (by with_reducible repeat constructor) rfl) ?_
  refine trw_read 1 [2,3] rfl (by kernel_rfl) rfl (rv_load isAgg4 rfl (by with_reducible repeat constructor) rfl) ?_
  refine trw_one 2 (by kernel_rfl) ?_
  refine trwat_eff rfl rfl rfl (ef_call rfl rfl call27 (p_flag (b := anyMore count layer bds)) (by repeat (first | with_reducible exact .nil | with_reducible exact .here | apply Picks.cons | apply Pick.there)) fun x38 hx38 => ?_)
  dsimp only [List.cons_append, List.nil_append]
  refine ⟨?_, (rv_load isAgg70 rfl (by with_reducible repeat constructor) rfl), trivial⟩
  refine trw_one 3 (by kernel_rfl) ?_
  refine trwat_eff rfl rfl rfl (ef_call rfl rfl call26 (wp_bits (bs := []) (by simp)) (by repeat (first | with_reducible exact .nil | with_reducible exact .here | apply Picks.cons | apply Pick.there)) fun x39 hx39 => ?_)
  dsimp only [List.cons_append, List.nil_append]
  refine ⟨?_, trivial⟩
  refine trw_nil ?_
  rw [flag_bits]
  refine tr_seq (tr_seq (tr_region (trl_val (rv_load isAgg4 rfl (by with_reducible repeat constructor) rfl) ?_)))
  refine trl_pv (pv_not rfl) (trl_nil (tr_ifb rfl (fun h0 => ?_) (fun h0 => ?_)))
  ·have hm : anyMore count layer bds = false := by simpa using h0
   have he : encF style count layer bds = ⟨[false], [], planted count bds⟩ := by unfold encF; rw [hm]; rfl
   rw [he, hm]
   dsimp only
   refine tr_seq (tr_region (trl_val (rv_load isAgg70 rfl (by with_reducible repeat constructor) rfl) ?_))
   refine trl_eff (ef_call rfl rfl call28 (wp_bytes (bs := [false]) (by simp)) (by repeat (first | with_reducible exact .nil | with_reducible exact .here | apply Picks.cons | apply Pick.there)) fun v43 ho43 => ?_)
   dsimp only [List.cons_append, List.nil_append]
   refine tas rfl (trl_eff0 (ef_store sizeOf30 rfl rfl (by first | rfl | assumption) (by with_reducible repeat constructor) rfl ?_))
   refine trl_nil (tr_keep (ks := [8,9]) (.cons rfl (.cons rfl .nil)) fun base => ?_)
   refine tr_empty 5 1 none ?_
   refine tr_ret func10 rfl (by repeat (first | with_reducible exact .here | apply Pick.there | exact .nil | apply Picks.cons)) (by kernel_rfl) (.tmp rfl (.cell rfl (loadVar_cell isAgg30 (by with_reducible repeat constructor) rfl) .nil)) (v43, .slice none 0 0) rfl ⟨ho43, rfl⟩ (by simp only [List.length_nil, u8s_nil]; exact holds_of_picks (by repeat (first | with_reducible exact .nil | with_reducible exact .here | apply Picks.cons | apply Pick.there)))
  ·have hm : anyMore count layer bds = true := by simpa using h0
   have he : encF style count layer bds = encAll style count layer bds := by unfold encF; rw [if_pos hm]
   rw [he, hm]
   refine tr_skip (tr_seq (tr_seq (tr_region (tmv rfl (trl_eff (ef_call rfl rfl call22 (p_spots hlv) (by repeat (first | with_reducible exact .nil | with_reducible exact .here | apply Picks.cons | apply Pick.there)) fun rl2 hx45 => ?_))))))
   dsimp only [List.cons_append, List.nil_append]
   refine trl_nil ?_
   refine tr_empty 5 1 none ?_
   refine Tr.fold (show Fold [pt r9 30 [.slice none 0 0], Sl 5 1 0 (.slice none 0 0) []] (exs (fun x : Value => one? x = true) (fun x : Value => [pt r9 30 [x], Sl 5 1 (((spotsL (counts bds) 0).take 0).foldl (encStep style count layer) ⟨[true], [], planted count bds⟩).body.length x (u8s (((spotsL (counts bds) 0).take 0).foldl (encStep style count layer) ⟨[true], [], planted count bds⟩).body)])) from exs_fold (α := Value) (p := (fun x : Value => one? x = true)) (A := (fun x : Value => [pt r9 30 [x], Sl 5 1 (((spotsL (counts bds) 0).take 0).foldl (encStep style count layer) ⟨[true], [], planted count bds⟩).body.length x (u8s (((spotsL (counts bds) 0).take 0).foldl (encStep style count layer) ⟨[true], [], planted count bds⟩).body)])) (.slice none 0 0) rfl) (by repeat (first | with_reducible exact .nil | with_reducible exact .here | apply Picks.cons | apply Pick.there)) ?_
   rw [show WP w [true] = WP w (((spotsL (counts bds) 0).take 0).foldl (encStep style count layer) ⟨[true], [], planted count bds⟩).bits from rfl, show SLs PB G (planted count bds) = SLs PB G (((spotsL (counts bds) 0).take 0).foldl (encStep style count layer) ⟨[true], [], planted count bds⟩).bds from rfl]
   refine tr_keep (ks := [5,6,7,9,12,45]) (.cons rfl (.cons rfl (.cons rfl (.cons rfl (.cons rfl (.cons rfl .nil)))))) fun base => ?_
   refine tr_block ?_
   refine tr_range rfl call68 (p_spots1 (rl := rl2) (lv := lv) (G := G) (ns := counts bds) hG hcl (fun n hn => Nat.le_trans (hN n hn) (by omega)) hslv) (fun i => [exs (fun x : Value => one? x = true) (fun x : Value => [pt r9 30 [x], Sl 5 1 (((spotsL (counts bds) 0).take i).foldl (encStep style count layer) ⟨[true], [], planted count bds⟩).body.length x (u8s (((spotsL (counts bds) 0).take i).foldl (encStep style count layer) ⟨[true], [], planted count bds⟩).body)]), pt r5 3 [.int .i64 style], pt r6 3 [.int .i64 (count : Nat)], pt r7 3 [.int .i64 (layer : Nat)], pt r12 70 [.pointer (some ⟨w, 0, none⟩)], WP w (((spotsL (counts bds) 0).take i).foldl (encStep style count layer) ⟨[true], [], planted count bds⟩).bits, SLs PB G (((spotsL (counts bds) 0).take i).foldl (encStep style count layer) ⟨[true], [], planted count bds⟩).bds]) (fun _ _ i _ => heads_sls (by with_reducible repeat constructor) (by have := (encN_ok (style := style) (count := count) hl ((spotsL (counts bds) 0).take i) (planted_ok (count := count) hB)).bds.1; rw [hcl] at this; exact this)) (fun _ => [pure' False]) (by repeat (first | with_reducible exact .nil | with_reducible exact .here | apply Picks.cons | apply Pick.there)) (fun i hi => rfl) ?_ ?_ ?_
   ·intro lp tm0 dfr i hi
    dsimp only
    obtain ⟨⟨j, k⟩, hx⟩ := get_some (l := (spotsL (counts bds) 0)) (i := i) hi
    obtain ⟨-, n, hn, hk⟩ := spots_mem hx
    rw [Nat.sub_zero] at hn
    rw [List.getD_eq_getElem?_getD (l := (spotsL (counts bds) 0)), hx]
    dsimp only [Option.getD_some]
    obtain ⟨g, hg⟩ := get_some (l := G) (i := j) (by have := (List.getElem?_eq_some_iff.1 hn).1; simp [counts] at this; omega)
    rw [List.getD_eq_getElem?_getD (l := G), hg]
    dsimp only [Option.getD_some]
    have hspl := hN2
    have hEi := encN_ok (style := style) (count := count) hl ((spotsL (counts bds) 0).take i) (planted_ok (count := count) hB)
    obtain ⟨e, hE⟩ : ∃ e, e = (((spotsL (counts bds) 0).take i).foldl (encStep style count layer) ⟨[true], [], planted count bds⟩) := ⟨_, rfl⟩
    rw [← hE] at hEi ⊢
    obtain ⟨bd, s, hbd, hs, hBd, hso⟩ := hEi.bds.at hn hk
    have hset := hEi.set _ _ hbd (by rintro e; rw [e] at hs; simp at hs)
    have hlt := (List.getElem?_eq_some_iff.1 hbd).1
    have hbits := hEi.bits
    have hbody := hEi.body
    have hti : (0 + ((spotsL (counts bds) 0).take i).length) ≤ 100 := by simp; omega
    have ht := toOf_le (count := count) (layer := layer) hso
    have hhd := headF_le (style := style) (layer := layer) (to := toOf count layer s) (k := k) hBd hso hl (by have := hso.b.len; omega)
    have hkk := (List.getElem?_eq_some_iff.1 hs).1
    have hsz := hso.b.size
    refine tr_region (trl_eff (ef_alloc zeroValue66 (by dsimp only [cellsL, List.toList_toArray]) fun r13 => ?_))
    refine trl_eff0 (ef_store_agg sizeOf66 rfl rfl rfl (by with_reducible repeat constructor) rfl ?_)
    refine trl_nil (tr_beginRound (by with_reducible repeat constructor) ?_)
    refine tr_block (tr_seq ?_)
    generalize hO : pobj lp (lobj _ tm0 _ _ _ dfr .busy none) = O
    refine Tr.unfold (sls_open hg hbd) (by with_reducible repeat constructor) fun _ _ => ?_
    dsimp only [List.cons_append, List.nil_append]
    refine Tr.fact (fun F w hw => pb_len (by with_reducible repeat constructor) hw) fun hgl => ?_
    obtain ⟨gg, hgg⟩ := get_some (l := g.gs) (i := k) (by omega)
    refine tr_exs (α := Value) (p := (fun x : Value => one? x = true)) (A := fun x : Value => [pt r9 30 [x], Sl 5 1 e.body.length x (u8s e.body)]) (by with_reducible repeat constructor) fun xb hxb => ?_
    dsimp only [List.cons_append, List.nil_append]
    refine tr_draww (rem := [0,1,2,3,4,5,6,7,8,9,10]) (by kernel_rfl) (by kernel_rfl) rfl ?_
    refine trw_pure 4 [5,6,7,8,9,10] rfl (by kernel_rfl) rfl (pv_fieldAddr runUnderlying66 rfl sizeOf64 rfl rfl) (trw_read 0 [3,9,10] rfl (by kernel_rfl) rfl (rv_load_agg isAgg66 sizeOf66 rfl (by with_reducible repeat constructor) rfl) ?_)
    refine trw_read 1 [3,9,10] rfl (by kernel_rfl) rfl (rv_load isAgg3 rfl (by with_reducible repeat constructor) rfl) ?_
    refine trw_read 2 [3,9,10] rfl (by kernel_rfl) rfl (rv_load isAgg3 rfl (by with_reducible repeat constructor) rfl) ?_
    refine trw_read 5 [6,7,8,9,10] rfl (by kernel_rfl) rfl (rv_load isAgg64 rfl (by with_reducible repeat constructor) rfl) ?_
    refine twn 6 [7,8,9,10] rfl (by kernel_rfl) rfl rfl (trw_pure 7 [8,9,10] rfl (by kernel_rfl) rfl (pv_fieldAddr runUnderlying69 rfl sizeOf3 rfl rfl) (trw_read 8 [9,10] rfl (by kernel_rfl) rfl (rv_pb (bd := bd) (u := .int .i64 (s.said : Int)) isAgg3 rfl (by with_reducible repeat constructor) hs (fun _ => rfl)) ?_))
    refine trw_one 3 (by kernel_rfl) ?_
    refine trwat_eff rfl rfl rfl (ef_call rfl rfl call24 (p_fresh (g := g) (bd := bd) (s := s) (k := k) (count := count) (layer := layer) hs hso.b.len hc hc2 (by omega)) (by repeat (first | with_reducible exact .nil | with_reducible exact .here | apply Picks.cons | apply Pick.there)) fun x50 hx50 => ?_)
    dsimp only [List.cons_append, List.nil_append]
    refine ⟨?_, (rv_pb (bd := bd) (u := .int .i64 (s.said : Int)) isAgg3 rfl (by with_reducible repeat constructor) hs (fun _ => rfl)), (rv_load isAgg64 rfl (by with_reducible repeat constructor) rfl), trivial⟩
    refine trw_pure 9 [10] rfl (by kernel_rfl) rfl (pv_conv (pv_maxI rfl rfl) (congrArg (Value.int .i64) (show max ((passesF s.b.ps.length count (layer + 1) : Nat) : Int) (s.said : Int) = ((toOf count layer s : Nat) : Int) from by unfold toOf; omega))) (trw_pure 10 [] rfl (by kernel_rfl) rfl (pv_assign rfl) (trw_nil (tr_keep (ks := [5,7,9,12,13,14]) (.cons rfl (.cons rfl (.cons rfl (.cons rfl (.cons rfl (.cons rfl .nil)))))) fun base => ?_)))
    refine tr_seq (tr_region (trl_val (rv_load_agg isAgg66 sizeOf66 rfl (by with_reducible repeat constructor) rfl) ?_))
    refine trl_val (rv_load isAgg70 rfl (by with_reducible repeat constructor) rfl) ?_
    refine trl_val (rv_load isAgg3 rfl (by with_reducible repeat constructor) rfl) ?_
    refine trl_val (rv_load isAgg3 rfl (by with_reducible repeat constructor) rfl) ?_
    refine tmv rfl (trl_eff (ef_call rfl rfl call29 (p_head (g := g) (bd := bd) (s := s) (k := k) (layer := layer) (to := toOf count layer s) (w := w) (style := style) (bs := e.bits) hBd hs hl ht.1 ht.2 (by omega)) (by repeat (first | with_reducible exact .nil | with_reducible exact .here | apply Picks.cons | apply Pick.there)) fun x62 hx62 => ?_))
    dsimp only [List.cons_append, List.nil_append]
    refine trl_nil (tr_keep (ks := [9,13,14]) (.cons rfl (.cons rfl (.cons rfl .nil))) fun base => ?_)
    refine tr_seq (tr_seq ?_)
    have hs3 : ({ bd with first := (headF style layer (toOf count layer s) bd k s).first, zeros := (headF style layer (toOf count layer s) bd k s).zeros, ss := bd.ss.set k { s with lb := (headF style layer (toOf count layer s) bd k s).lb } }).ss[k]? = some { s with lb := (headF style layer (toOf count layer s) bd k s).lb } := List.getElem?_set_self hkk
    refine tr_region (tmv rfl (trl_pv (pv_fieldAddr runUnderlying66 rfl sizeOf64 rfl rfl) (trl_val (rv_load isAgg64 rfl (by with_reducible repeat constructor) rfl) ?_)))
    refine tnc rfl (trl_pv (pv_fieldAddr runUnderlying69 rfl sizeOf3 rfl rfl) (trl_val (rv_pb (bd := { bd with first := (headF style layer (toOf count layer s) bd k s).first, zeros := (headF style layer (toOf count layer s) bd k s).zeros, ss := bd.ss.set k { s with lb := (headF style layer (toOf count layer s) bd k s).lb } }) (u := .int .i64 (s.said : Int)) isAgg3 rfl (by with_reducible repeat constructor) hs3 (fun _ => rfl)) ?_))
    refine trl_pv (pv_gtr rfl rfl) (trl_nil ?_)
    refine tr_join (α := Value) (fun _ => [(13, .pointer (some ⟨r13, 0, none⟩)), (14, .int .i64 (toOf count layer s : Nat))]) (fun y => [pure' (one? y = true), O, pt r5 3 [.int .i64 style], pt r6 3 [.int .i64 (count : Nat)], pt r7 3 [.int .i64 (layer : Nat)], pt r12 70 [.pointer (some ⟨w, 0, none⟩)], pt r13 66 [.pointer (some ⟨slBase g.v, k * 5, none⟩), .pointer (some ⟨g.r, 0, none⟩), .int .i64 (k : Nat)], WP w (e.bits ++ (headF style layer (toOf count layer s) bd k s).bits), PB g ({ bd with first := (headF style layer (toOf count layer s) bd k s).first, zeros := (headF style layer (toOf count layer s) bd k s).zeros, ss := bd.ss.set k { s with lb := (headF style layer (toOf count layer s) bd k s).lb } }), SLs PB (G.eraseIdx j) (e.bds.eraseIdx j), pt r9 30 [y], Sl 5 1 (e.body ++ (if s.said < toOf count layer s then bodyF s (toOf count layer s) else [])).length y (u8s (e.body ++ (if s.said < toOf count layer s then bodyF s (toOf count layer s) else [])))]) (fun K1 hK1 => ?_) ?_
    ·refine tr_if rfl (fun h1 => ?_) (fun h1 => ?_)
     ·have hsl2 : s.said < toOf count layer s := by omega
      have hw1 := was0_le hso.b hsl2 ht.2
      have hw0 := hso.b.ends.was0 s.said
      have hw2 := hso.b.le (toOf count layer s - 1) (by omega)
      have hbl := body_len hso hsl2 ht.2
      refine tr_draww (rem := [0,1,2,3,4,5]) (by kernel_rfl) (by kernel_rfl) rfl ?_
      refine twm 2 [3,4,5] rfl (by kernel_rfl) rfl rfl (trw_read 0 [4,5] rfl (by kernel_rfl) rfl (rv_load isAgg30 rfl (by with_reducible repeat constructor) rfl) ?_)
      refine trw_read 1 [3,4,5] rfl (by kernel_rfl) rfl (rv_load_agg isAgg66 sizeOf66 rfl (by with_reducible repeat constructor) rfl) ?_
      refine trw_one 3 (by kernel_rfl) ?_
      refine trwat_eff rfl rfl rfl (ef_call rfl rfl call30 (p_body (g := g) (bd := { bd with first := (headF style layer (toOf count layer s) bd k s).first, zeros := (headF style layer (toOf count layer s) bd k s).zeros, ss := bd.ss.set k { s with lb := (headF style layer (toOf count layer s) bd k s).lb } }) (s := { s with lb := (headF style layer (toOf count layer s) bd k s).lb }) (k := k) (to := toOf count layer s) (gg := gg) hs3 hgg ⟨hso.b, hso.said, headF_lb hso⟩ (show s.said < toOf count layer s by omega) ht.2) (by repeat (first | with_reducible exact .nil | with_reducible exact .here | apply Picks.cons | apply Pick.there)) fun x73 hx73 => ?_)
      dsimp only [List.cons_append, List.nil_append]
      refine ⟨?_, (rv_load isAgg30 rfl (by with_reducible repeat constructor) rfl), trivial⟩
      refine trw_one 4 (by kernel_rfl) ?_
      refine trwat_eff rfl rfl rfl (ef_append runUnderlying30 runUnderlying30 typeInfo5 sizeOf5 zeroValue5 rfl rfl rfl (by with_reducible repeat constructor) (reads_pb (bd := { bd with first := (headF style layer (toOf count layer s) bd k s).first, zeros := (headF style layer (toOf count layer s) bd k s).zeros, ss := bd.ss.set k { s with lb := (headF style layer (toOf count layer s) bd k s).lb } }) (vs := u8s (bodyF s (toOf count layer s))) (by with_reducible repeat constructor) hs3 hgg (by show (was0 s.said (endsOf s.b)).toNat ≤ ((endsOf s.b).getD (toOf count layer s - 1) 0).toNat; omega) (by show ((endsOf s.b).getD (toOf count layer s - 1) 0).toNat ≤ s.b.bys.length; omega) (body_u8s s _)) (by rw [u8s_length, Nat.mul_one]; exact hbl) one_u8s (by rw [show Tryz.t5.bytes = 1 from rfl]; omega) fun v74 ho74 => ?_)
      refine ⟨?_, trivial⟩
      refine trw_one 5 (by kernel_rfl) ?_
      refine trwat_eff0 rfl rfl rfl (ef_store sizeOf30 rfl rfl (by first | rfl | assumption) (by with_reducible repeat constructor) rfl ?_)
      refine ⟨?_, trivial⟩
      refine trw_nil (tr_keep (ks := [13,14]) (.cons rfl (.cons rfl .nil)) fun base => ?_)
      refine tr_meet hK1 v74 (.cons rfl (.cons rfl .nil)) (by rw [if_pos hsl2, List.length_append, hbl, u8s_append]; exact holds_pure ho74 (holds_of_picks (by repeat (first | with_reducible exact .nil | with_reducible exact .here | apply Picks.cons | apply Pick.there))))
     ·refine tr_skip (tr_meet hK1 xb (.cons rfl (.cons rfl .nil)) (by rw [if_neg (show ¬ s.said < toOf count layer s by omega), List.append_nil]; exact holds_pure hxb (holds_of_picks (by repeat (first | with_reducible exact .nil | with_reducible exact .here | apply Picks.cons | apply Pick.there)))))
    ·intro y base
     refine Tr.pure fun hy => ?_
     refine Tr.unfold pb_open (by with_reducible repeat constructor) fun _ _ => ?_
     dsimp only [List.cons_append, List.nil_append]
     refine tr_region (trl_pv (pv_fieldAddr runUnderlying66 rfl sizeOf64 rfl rfl) (trl_val (rv_load isAgg64 rfl (by with_reducible repeat constructor) rfl) ?_))
     refine tmv rfl (tnc rfl (trl_pv (pv_fieldAddr runUnderlying69 rfl sizeOf3 rfl rfl) (trl_eff0 (ef_store_sl sizeOf3 rfl rfl (by first | rfl | assumption) (by with_reducible repeat constructor) (sc_lt (by simp [hgl]) (by simp [hkk]) (by decide)) (sc_set (s' := { s with said := toOf count layer s, lb := (headF style layer (toOf count layer s) bd k s).lb }) hs3 hgg (by decide) rfl) ?_))))
     refine trl_nil ?_
     dsimp only
     rw [List.set_set]
     refine Tr.fold (pb_fold (g := g) (bd := stepF style count layer bd k s) (r := g.r) (v := g.v) (p := bd.planes) (rF := g.rF) (rZ := g.rZ) (st := bd.set) (sh := bd.sh) (n := (bd.ss.set k { s with lb := (headF style layer (toOf count layer s) bd k s).lb }).length) (cs := scells (bd.ss.set k { s with said := toOf count layer s, lb := (headF style layer (toOf count layer s) bd k s).lb }) g.gs) (ss' := bd.ss.set k { s with lb := (headF style layer (toOf count layer s) bd k s).lb }) (T1 := (headF style layer (toOf count layer s) bd k s).first) (T2 := (headF style layer (toOf count layer s) bd k s).zeros) (by simp [stepF, hgl]) rfl rfl rfl rfl rfl rfl (by simp [stepF]) rfl ((map_b_set (s' := { s with lb := (headF style layer (toOf count layer s) bd k s).lb }) hs rfl).trans (map_b_set (s' := { s with said := toOf count layer s, lb := (headF style layer (toOf count layer s) bd k s).lb }) hs rfl).symm) rfl rfl rfl) (by repeat (first | with_reducible exact .nil | with_reducible exact .here | apply Picks.cons | apply Pick.there)) ?_
     refine Tr.fold (sls_put (A := PB) hg hlt) (by repeat (first | with_reducible exact .nil | with_reducible exact .here | apply Picks.cons | apply Pick.there)) ?_
     refine tr_keep (ks := []) (.nil) fun base => ?_
     refine tr_inBlock ?_
     subst hO
     refine tr_round_end (by with_reducible repeat constructor) (by (try dsimp only [if_true]); rw [foldl_take hx, ← hE, encStep_eq hbd hs]; exact holds_skip (holds_exs (α := Value) y hy (by dsimp only [List.cons_append, List.nil_append]; exact holds_of_picks (by repeat (first | with_reducible exact .nil | with_reducible exact .here | apply Picks.cons | apply Pick.there)))))
   ·intro r0
    dsimp only [List.cons_append, List.nil_append]
    rw [List.take_length, show (spotsL (counts bds) 0).foldl (encStep style count layer) ⟨[true], [], planted count bds⟩ = encAll style count layer bds from rfl]
    have hEn := encN_ok (style := style) (count := count) hl (spotsL (counts bds) 0) (planted_ok (count := count) hB)
    rw [show (spotsL (counts bds) 0).foldl (encStep style count layer) ⟨[true], [], planted count bds⟩ = encAll style count layer bds from rfl] at hEn
    have hbits := hEn.bits
    have hbody := hEn.body
    refine tr_exs (α := Value) (p := (fun x : Value => one? x = true)) (A := fun x : Value => [pt r9 30 [x], Sl 5 1 (encAll style count layer bds).body.length x (u8s (encAll style count layer bds).body)]) (by with_reducible repeat constructor) fun xb hxb => ?_
    dsimp only [List.cons_append, List.nil_append]
    refine tr_inBlock (tr_seq (tr_draww (rem := [0,1,2,3,4,5]) (by kernel_rfl) (by kernel_rfl) rfl ?_))
    refine trw_read 0 [1,3,4,5] rfl (by kernel_rfl) rfl (rv_load isAgg70 rfl (by with_reducible repeat constructor) rfl) ?_
    refine trw_read 2 [3,4,5] rfl (by kernel_rfl) rfl (rv_load isAgg30 rfl (by with_reducible repeat constructor) rfl) ?_
    refine trw_one 1 (by kernel_rfl) ?_
    refine trwat_eff rfl rfl rfl (ef_call rfl rfl call28 (wp_bytes (bs := (encAll style count layer bds).bits) (by omega)) (by repeat (first | with_reducible exact .nil | with_reducible exact .here | apply Picks.cons | apply Pick.there)) fun v81 ho81 => ?_)
    dsimp only [List.cons_append, List.nil_append]
    refine ⟨?_, (rv_load isAgg30 rfl (by with_reducible repeat constructor) rfl), trivial⟩
    refine trw_one 3 (by kernel_rfl) ?_
    refine trwat_eff rfl rfl rfl (ef_call rfl rfl call31 (clone_u8 (n := (encAll style count layer bds).body.length) (by omega) one_u8s) (by repeat (first | with_reducible exact .nil | with_reducible exact .here | apply Picks.cons | apply Pick.there)) fun v83 ho83 => ?_)
    dsimp only [List.cons_append, List.nil_append]
    refine ⟨?_, trivial⟩
    refine trw_pure 4 [5] rfl (by kernel_rfl) rfl (pv_assign rfl) (trw_one 5 (by kernel_rfl) ?_)
    refine trwat_eff0 rfl rfl rfl (ef_store sizeOf30 rfl rfl (by first | rfl | assumption) (by with_reducible repeat constructor) rfl ?_)
    refine ⟨?_, trivial⟩
    refine trw_nil (tr_keep (ks := [8,9]) (.cons rfl (.cons rfl .nil)) fun base => ?_)
    refine tr_ret func10 rfl (by repeat (first | with_reducible exact .here | apply Pick.there | exact .nil | apply Picks.cons)) (by kernel_rfl) (.tmp rfl (.cell rfl (loadVar_cell isAgg30 (by with_reducible repeat constructor) rfl) .nil)) (v81, v83) rfl ⟨ho81, ho83⟩ (holds_of_picks (by repeat (first | with_reducible exact .nil | with_reducible exact .here | apply Picks.cons | apply Pick.there)))
   ·intro r0 c
    dsimp only [List.cons_append, List.nil_append]
    refine Tr.pick (A := pure' False) (by with_reducible repeat constructor) (Tr.pure fun h => h.elim)
 ·intro r0 c
  dsimp only [List.cons_append, List.nil_append]
  refine Tr.pick (A := pure' False) (by with_reducible repeat constructor) (Tr.pure fun h => h.elim)
end Go.Proofs
