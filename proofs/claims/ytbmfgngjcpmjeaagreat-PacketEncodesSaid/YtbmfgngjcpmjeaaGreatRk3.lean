/- Contracts of functions that the law reaches, in every memory (part Rk3). -/
import Derived.Test.YtbmfgngjcpmjeaaGreatRk2
set_option linter.unusedVariables false
set_option linter.unusedSimpArgs false
set_option maxRecDepth 10000
namespace Go.Proofs
open Go.Eng Tryz
theorem r_say {g : Gd} {bd : Bd} {s : Bs} {k to w : Nat} {st : Bool} {style : Int} {bs : List Bool} (hB : BdOk bd) (hR : RdOk bd) (hgl : g.gs.length = bd.ss.length) (hs : bd.ss[k]? = some s) (ht1 : s.said < to) (ht2 : to ≤ s.b.ps.length)
    (hlen : bs.length + ((head2 bd k s).1.length + (tellBits (((to - s.said : Nat) : Int))).length + ((needF s.lb (segOf style to s)) - s.lb) + 1 + (sizeBits (needF s.lb (segOf style to s)) (segOf style to s)).length) < 900000000000) :
    Spec Tryz.prog 38 [.pointer (some ⟨g.r, 0, none⟩), .pointer (some ⟨w, 0, none⟩), .int .i64 (k : Nat), .int .i64 style, .int .i64 (s.said : Nat), .int .i64 (to : Nat)] [pt g.r 83 [.int .i64 bd.planes, g.v, .pointer (some ⟨g.rF, 0, none⟩), .pointer (some ⟨g.rZ, 0, none⟩), .bool st], Sl 85 5 bd.ss.length g.v (scells (us bd.ss) g.gs), SLs (BP 90 5) g.gs bd.ss, RG g.rZ bd.sh bd.zeros, WR w bs]
    (fun _ : Unit => ⟨.tuple #[], True, [pt g.r 83 [.int .i64 bd.planes, g.v, .pointer (some ⟨g.rF, 0, none⟩), .pointer (some ⟨g.rZ, 0, none⟩), .bool st], Sl 85 5 bd.ss.length g.v (scells (us (bd.ss.set k { s with lb := (needF s.lb (segOf style to s)) })) g.gs), SLs (BP 90 5) g.gs bd.ss, RG g.rZ bd.sh (head2 bd k s).2, WR w (bs ++ (head2 bd k s).1 ++ (tellBits (((to - s.said : Nat) : Int))) ++ List.replicate ((needF s.lb (segOf style to s)) - s.lb) true ++ [false] ++ sizeBits (needF s.lb (segOf style to s)) (segOf style to s))]⟩) := by
 refine spec_of_tr func38 rfl ntmps38 (by kernel_rfl) ?_
 have hkk := (List.getElem?_eq_some_iff.1 hs).1
 have hso := hB.ss s (List.mem_of_getElem? hs)
 have hp0 := hB.p0
 have hp1 := hB.p1
 have hb0 := hso.b.pl0
 have hb1 := hso.b.pl1
 have hsl := hso.b.len
 have hslb := hso.lb
 have hpp := hR.pl s (List.mem_of_getElem? hs)
 have hus := us_get hs
 obtain ⟨sh0, hsh0, hshl⟩ := leaf0 hB.leaves (show 0 < bd.ss.length by omega)
 obtain ⟨gg, hgg⟩ := get_some (l := g.gs) (i := k) (by omega)
 refine Tr.unfold (sls_open hgg hs) (by with_reducible repeat constructor) fun _ _ => ?_
 dsimp only [List.cons_append, List.nil_append]
 refine Tr.unfold bp_open (by exact .here) fun _ _ => ?_
 dsimp only [List.cons_append, List.nil_append]
 refine Tr.fact (p := one? gg.1 = true ∧ one? gg.2 = true) (fun F w hw => ⟨SlV.one (SlV.of hw), SlV.one (SlV.of hw.drop)⟩) fun hog => ?_
 refine tr_seq (tr_region (tmv rfl (tnc rfl (trl_pv (pv_fieldAddr runUnderlying83 rfl sizeOf80 rfl rfl) (trl_val (rv_load isAgg80 rfl (by with_reducible repeat constructor) rfl) ?_)))))
 refine tmv rfl (trl_val (rv_indexAddr_sl runUnderlying80 sizeOf85 rfl rfl (by with_reducible repeat constructor) (by omega) (by omega)) ?_)
 refine trl_val (rv_load_agg_sl (us := [.int .i64 s.b.pl, gg.1, gg.2, .int .i64 0, .int .i64 (s.lb : Nat)]) isAgg85 sizeOf85 rfl (by with_reducible repeat constructor) rfl (sc_part hus hgg) (by omega)) ?_
 refine trl_eff (ef_alloc zeroValue85 (by dsimp only [cellsL, List.toList_toArray]) fun r12 => ?_)
 refine trl_eff0 (ef_store_agg sizeOf85 rfl rfl (by simp [one_int, hog.1, hog.2]) (by with_reducible repeat constructor) rfl ?_)
 refine trl_nil (tr_keep (ks := [0,1,2,3,4,5,12]) (.cons rfl (.cons rfl (.cons rfl (.cons rfl (.cons rfl (.cons rfl (.cons rfl .nil))))))) fun base => ?_)
 refine tr_seq (tr_seq (tr_region (tmv rfl (trl_pv (pv_eql rfl rfl) (trl_nil ?_)))))
 refine tr_join (α := Unit) (fun _ => [(0, .pointer (some ⟨g.r, 0, none⟩)), (1, .pointer (some ⟨w, 0, none⟩)), (2, .int .i64 (k : Nat)), (3, .int .i64 style), (4, .int .i64 (s.said : Nat)), (5, .int .i64 (to : Nat)), (12, .pointer (some ⟨r12, 0, none⟩))]) (fun _ => [pt r12 85 [.int .i64 s.b.pl, gg.1, gg.2, .int .i64 0, .int .i64 (s.lb : Nat)], pt g.r 83 [.int .i64 bd.planes, g.v, .pointer (some ⟨g.rF, 0, none⟩), .pointer (some ⟨g.rZ, 0, none⟩), .bool st], Sl 85 5 bd.ss.length g.v (scells (us bd.ss) g.gs), Sl 90 2 s.b.ps.length gg.1 (passC s.b.ps), Sl 5 1 s.b.bys.length gg.2 (u8s s.b.bys), SLs (BP 90 5) (g.gs.eraseIdx k) (bd.ss.eraseIdx k), RG g.rZ bd.sh (head2 bd k s).2, WR w (bs ++ (head2 bd k s).1)]) (fun K0 hK0 => ?_) ?_
 ·refine tr_if rfl (fun h0 => ?_) (fun h0 => ?_)
  ·have hz0 : s.said = 0 := by omega
   have he2 : head2 bd k s = zlF bd.sh k ((max (bd.planes - s.b.pl) 0).toNat + 1) 1 bd.zeros := if_pos hz0
   refine tr_seq (tr_draww (rem := [0,1,2,3,4,5,6,7,8]) (by kernel_rfl) (by kernel_rfl) rfl ?_)
   refine twm 0 [1,2,3,7,8] rfl (by kernel_rfl) rfl rfl (twn 1 [2,3,7,8] rfl (by kernel_rfl) rfl rfl (trw_pure 2 [3,7,8] rfl (by kernel_rfl) rfl (pv_fieldAddr runUnderlying83 rfl sizeOf3 rfl rfl) (trw_pure 4 [5,6,7,8] rfl (by kernel_rfl) rfl (pv_fieldAddr runUnderlying85 rfl sizeOf51 rfl rfl) (trw_pure 5 [6,7,8] rfl (by kernel_rfl) rfl (pv_fieldAddr runUnderlying51 rfl sizeOf3 rfl rfl) (trw_read 3 [7,8] rfl (by kernel_rfl) rfl (rv_load isAgg3 rfl (by with_reducible repeat constructor) rfl) ?_)))))
   refine trw_read 6 [7,8] rfl (by kernel_rfl) rfl (rv_load isAgg3 rfl (by with_reducible repeat constructor) rfl) ?_
   refine trw_pure 7 [8] rfl (by kernel_rfl) rfl (pv_subI rfl rfl (by show (-9223372036854775808 : Int) ≤ bd.planes - s.b.pl; omega) (by show bd.planes - s.b.pl ≤ (9223372036854775807 : Int); omega)) ?_
   refine trw_pure 8 [] rfl (by kernel_rfl) rfl (pv_assign rfl) (trw_nil (tr_keep (ks := [0,1,2,3,4,5,12,13]) (.cons rfl (.cons rfl (.cons rfl (.cons rfl (.cons rfl (.cons rfl (.cons rfl (.cons rfl .nil)))))))) fun base => ?_))
   refine tr_seq (tr_region (tas rfl (trl_nil (tr_block (tr_while (α := Nat × List Nd × List Bool) ((1, bd.zeros, [])) (fun x => (max (bd.planes - s.b.pl) 0).toNat + 2 - x.1) (fun x => [(0, .pointer (some ⟨g.r, 0, none⟩)), (1, .pointer (some ⟨w, 0, none⟩)), (2, .int .i64 (k : Nat)), (3, .int .i64 style), (4, .int .i64 (s.said : Nat)), (5, .int .i64 (to : Nat)), (12, .pointer (some ⟨r12, 0, none⟩)), (13, .int .i64 (bd.planes - s.b.pl)), (14, .int .i64 (x.1 : Nat))]) (fun x => [pure' (1 ≤ x.1 ∧ x.1 ≤ (max (bd.planes - s.b.pl) 0).toNat + 2 ∧ TOk bd.sh x.2.1 ∧ (head2 bd k s) = (x.2.2 ++ (zlF bd.sh k ((max (bd.planes - s.b.pl) 0).toNat + 2 - x.1) x.1 x.2.1).1, (zlF bd.sh k ((max (bd.planes - s.b.pl) 0).toNat + 2 - x.1) x.1 x.2.1).2)), pt r12 85 [.int .i64 s.b.pl, gg.1, gg.2, .int .i64 0, .int .i64 (s.lb : Nat)], pt g.r 83 [.int .i64 bd.planes, g.v, .pointer (some ⟨g.rF, 0, none⟩), .pointer (some ⟨g.rZ, 0, none⟩), .bool st], Sl 85 5 bd.ss.length g.v (scells (us bd.ss) g.gs), Sl 90 2 s.b.ps.length gg.1 (passC s.b.ps), Sl 5 1 s.b.bys.length gg.2 (u8s s.b.bys), SLs (BP 90 5) (g.gs.eraseIdx k) (bd.ss.eraseIdx k), RG g.rZ bd.sh x.2.1, WR w (bs ++ x.2.2)]) (ks := [0,1,2,3,4,5,12,13,14]) (.cons rfl (.cons rfl (.cons rfl (.cons rfl (.cons rfl (.cons rfl (.cons rfl (.cons rfl (.cons rfl .nil))))))))) (by simp only [List.append_nil]; exact holds_pure ⟨Nat.le_refl _, by omega, hR.zeros, by rw [he2]; rfl⟩ (holds_of_picks (by with_reducible repeat constructor))) ?_)))))
   intro ⟨n, T, b2⟩ base ih0
   refine Tr.pure fun ⟨hn1, hn2, hTO, hz⟩ => ?_
   dsimp only at hn1 hn2 hTO hz ⊢
   refine tr_seq (tr_seq (tr_region (tmv rfl (tmv rfl (trl_pv (pv_conv (pv_addI rfl rfl (by omega) (by omega)) (congrArg (Value.int .i64) (show bd.planes - s.b.pl + 1 = (((max (bd.planes - s.b.pl) 0).toNat + 1 : Nat) : Int) from by omega))) ?_)))))
   refine trl_pv (pv_leq rfl rfl) (trl_nil (tr_if rfl (fun h1 => ?_) (fun h1 => ?_)))
   ·obtain ⟨f, hf⟩ : ∃ f, (max (bd.planes - s.b.pl) 0).toNat + 2 - n = f + 1 := ⟨(max (bd.planes - s.b.pl) 0).toNat + 1 - n, by omega⟩
    have hf2 : (max (bd.planes - s.b.pl) 0).toNat + 2 - (n + 1) = f := by omega
    rw [hf] at hz
    simp only [zlF] at hz
    have hzl := congrArg (fun x => x.1.length) hz
    simp only [List.length_append] at hzl
    obtain ⟨hwo, hTO2⟩ := hTO.enc hsh0 (show k < sh0.1 * sh0.2 by omega) (n : Int)
    refine tr_skip (tr_seq (tr_block (tr_region (tmv rfl (tnc rfl (trl_pv (pv_fieldAddr runUnderlying83 rfl sizeOf81 rfl rfl) (trl_val (rv_load isAgg81 rfl (by with_reducible repeat constructor) rfl) ?_)))))))
    refine tmv rfl (tmv rfl (tmv rfl (trl_eff (ef_call rfl rfl call37 (rg_encode (sh := bd.sh) (T := T) (bs := bs ++ b2) (k := k) (bound := (n : Int)) hB.fine hB.ends hsh0 (by omega) hwo (by simp only [List.length_append]; omega) (by omega)) (by with_reducible repeat constructor) fun x49 hx49 => ?_))))
    dsimp only [List.cons_append, List.nil_append]
    refine trl_nil (tr_keep (ks := [0,1,2,3,4,5,12,13,14]) (.cons rfl (.cons rfl (.cons rfl (.cons rfl (.cons rfl (.cons rfl (.cons rfl (.cons rfl (.cons rfl .nil))))))))) fun base => ?_)
    refine tr_inBlock (tr_region (tmv rfl (trl_pv (pv_addI rfl rfl (by omega) (by omega)) ?_)))
    refine tas rfl (trl_nil (tr_again ih0 (n + 1, (encT bd.sh T k n).2, b2 ++ (encT bd.sh T k n).1) (by first | omega | (dsimp only; omega)) (.cons rfl (.cons rfl (.cons rfl (.cons rfl (.cons rfl (.cons rfl (.cons rfl (.cons rfl (.cons (keep_int rfl (by first | omega | (dsimp only; omega))) .nil))))))))) (by dsimp only; rw [← List.append_assoc]; exact holds_pure ⟨by omega, by omega, hTO2, by rw [hf2, hz, List.append_assoc]⟩ (holds_of_picks (by with_reducible repeat constructor)))))
   ·refine tr_exit rfl ?_
    obtain rfl : n = (max (bd.planes - s.b.pl) 0).toNat + 2 := by omega
    rw [Nat.sub_self] at hz
    simp only [zlF, List.append_nil] at hz
    refine tr_meet hK0 () (.cons rfl (.cons rfl (.cons rfl (.cons rfl (.cons rfl (.cons rfl (.cons rfl .nil))))))) (by rw [hz]; exact holds_of_picks (by with_reducible repeat constructor))
  ·have he2 : head2 bd k s = ([], bd.zeros) := if_neg (by omega)
   refine tr_skip (tr_meet hK0 () (.cons rfl (.cons rfl (.cons rfl (.cons rfl (.cons rfl (.cons rfl (.cons rfl .nil))))))) (by rw [he2]; dsimp only; rw [List.append_nil]; exact holds_of_picks (by with_reducible repeat constructor)))
 ·intro y base
  refine tr_seq (tr_region (tmv rfl (tmv rfl (tmv rfl (trl_pv (pv_conv (pv_subI rfl rfl (by omega) (by omega)) (congrArg (Value.int .i64) (show (to : Int) - (s.said : Int) = ((to - s.said : Nat) : Int) from by omega))) ?_)))))
  refine trl_eff (ef_call rfl rfl call82 (r_count (bs := bs ++ (head2 bd k s).1) (n := ((to - s.said : Nat) : Int)) (by omega) (by omega) (by simp only [List.length_append]; omega)) (by with_reducible repeat constructor) fun x54 hx54 => ?_)
  dsimp only [List.cons_append, List.nil_append]
  refine trl_nil (tr_seq (tr_region (tmv rfl (tmv rfl (tmv rfl (trl_pv (pv_fieldAddr runUnderlying85 rfl sizeOf51 rfl rfl) (trl_val (rv_load_agg isAgg51 sizeOf51 rfl (by with_reducible repeat constructor) rfl) ?_)))))))
  refine trl_eff (ef_call rfl rfl call84 (r_ends_of (pl := s.b.pl) (pv := gg.1) (bv := gg.2) (ps := s.b.ps) hso.b.len) (by with_reducible repeat constructor) fun v61 ho61 => ?_)
  dsimp only [List.cons_append, List.nil_append]
  rw [show s.b.ps.length = (endsOf s.b).length from (endsOf_length _).symm, show s.b.ps.map (·.1) = endsOf s.b from rfl]
  refine trl_eff (ef_call rfl rfl call83 (r_segments (style := style) (frm := s.said) (to := to) (ends := endsOf s.b) (by omega) (by omega) (by rw [endsOf_length]; exact ht2) hso.b.ends (by rw [endsOf_length]; omega)) (by with_reducible repeat constructor) fun ⟨pv, qv⟩ hpq => ?_)
  dsimp only [List.cons_append, List.nil_append]
  refine tmv rfl (trl_pv (pv_extract rfl rfl) (trl_pv (pv_extract rfl rfl) (tas rfl (tas rfl (trl_nil ?_)))))
  rw [show (endsOf s.b).length = s.b.ps.length from endsOf_length _]
  have hsgb := segsF_bound (style := style) (frm := s.said) (to := to) hso.b.ends
  have hsgp := segsF_pos hso.b (style := style) (Nat.le_of_lt ht1) ht2
  have hsgq := segsF_passes (ends := endsOf s.b) (style := style) (Nat.le_of_lt ht1)
  have hsgl := segsF_le style s.said to (endsOf s.b)
  have hndl := needF_le s.lb (segOf style to s) hso.lb hsgb
  have hndg := needF_ge s.lb (segOf style to s)
  rw [show segsF style s.said to (endsOf s.b) = segOf style to s from rfl] at hsgb hsgp hsgq hsgl ⊢
  refine tr_keep (ks := [0,1,2,12,15,16]) (.cons rfl (.cons rfl (.cons rfl (.cons rfl (.cons rfl (.cons rfl .nil)))))) fun base => ?_
  refine tr_seq (tr_seq (tr_region (tas rfl (trl_nil (tr_block (tr_while (α := Nat) (0) (fun i => (segOf style to s).length - i) (fun i => [(0, .pointer (some ⟨g.r, 0, none⟩)), (1, .pointer (some ⟨w, 0, none⟩)), (2, .int .i64 (k : Nat)), (12, .pointer (some ⟨r12, 0, none⟩)), (15, pv), (16, qv), (17, .int .i64 (i : Nat))]) (fun i => [pure' (i ≤ (segOf style to s).length ∧ (needF s.lb ((segOf style to s).take i)) ≤ (needF s.lb (segOf style to s))), Sl 3 1 (segOf style to s).length pv (nats ((segOf style to s).map (·.1))), Sl 3 1 (segOf style to s).length qv (i64s ((segOf style to s).map (·.2))), pt r12 85 [.int .i64 s.b.pl, gg.1, gg.2, .int .i64 0, .int .i64 ((needF s.lb ((segOf style to s).take i)) : Nat)], pt g.r 83 [.int .i64 bd.planes, g.v, .pointer (some ⟨g.rF, 0, none⟩), .pointer (some ⟨g.rZ, 0, none⟩), .bool st], Sl 85 5 bd.ss.length g.v (scells (us bd.ss) g.gs), Sl 90 2 s.b.ps.length gg.1 (passC s.b.ps), Sl 5 1 s.b.bys.length gg.2 (u8s s.b.bys), SLs (BP 90 5) (g.gs.eraseIdx k) (bd.ss.eraseIdx k), RG g.rZ bd.sh (head2 bd k s).2, WR w (bs ++ (head2 bd k s).1 ++ (tellBits (((to - s.said : Nat) : Int))) ++ List.replicate ((needF s.lb ((segOf style to s).take i)) - s.lb) true)]) (ks := [0,1,2,12,15,16,17]) (.cons rfl (.cons rfl (.cons rfl (.cons rfl (.cons rfl (.cons rfl (.cons rfl .nil))))))) (by rw [show (needF s.lb ((segOf style to s).take 0)) = s.lb from rfl, Nat.sub_self, List.replicate_zero, List.append_nil]; exact holds_pure ⟨Nat.zero_le _, hndg⟩ (holds_of_picks (by with_reducible repeat constructor))) ?_))))))
  intro i base ih1
  refine Tr.pure fun ⟨hi, hnd⟩ => ?_
  refine tr_seq (tr_seq (tr_region (tmv rfl (tmv rfl (trl_val (rv_len_sl runUnderlying38 rfl (by with_reducible repeat constructor)) ?_)))))
  refine trl_pv (pv_lss rfl rfl) (trl_nil (tr_if rfl (fun h2 => ?_) (fun h2 => ?_)))
  ·obtain ⟨⟨p, q⟩, hpq2⟩ := get_some (l := (segOf style to s)) (i := i) (by omega)
   have hq0 := hsgp _ (List.mem_of_getElem? hpq2)
   have hq1 := hsgb _ (List.mem_of_getElem? hpq2)
   have hp1 := hsgq _ (List.mem_of_getElem? hpq2)
   dsimp only at hq0 hq1 hp1
   obtain ⟨q, rfl⟩ := Int.eq_ofNat_of_zero_le hq0
   have hqm : ((segOf style to s).map (·.2))[i]? = some (q : Int) := by simp [hpq2]
   have hpm : ((segOf style to s).map (·.1))[i]? = some p := by simp [hpq2]
   have hlp := lg_le6 (p := p) (by omega)
   have hnn := needF_take_le s.lb hpq2
   have hgi := needF_ge s.lb ((segOf style to s).take i)
   have hnl := needF_take_le2 s.lb (segOf style to s) (i + 1)
   refine tr_skip (tr_seq (tr_block (tr_block (tr_while (α := Nat) ((needF s.lb ((segOf style to s).take i))) (fun L => (needF s.lb ((segOf style to s).take (i + 1))) - L) (fun _ => [(0, .pointer (some ⟨g.r, 0, none⟩)), (1, .pointer (some ⟨w, 0, none⟩)), (2, .int .i64 (k : Nat)), (12, .pointer (some ⟨r12, 0, none⟩)), (15, pv), (16, qv), (17, .int .i64 (i : Nat))]) (fun L => [pure' ((needF s.lb ((segOf style to s).take i)) ≤ L ∧ L ≤ (needF s.lb ((segOf style to s).take (i + 1)))), Sl 3 1 (segOf style to s).length pv (nats ((segOf style to s).map (·.1))), Sl 3 1 (segOf style to s).length qv (i64s ((segOf style to s).map (·.2))), pt r12 85 [.int .i64 s.b.pl, gg.1, gg.2, .int .i64 0, .int .i64 (L : Nat)], pt g.r 83 [.int .i64 bd.planes, g.v, .pointer (some ⟨g.rF, 0, none⟩), .pointer (some ⟨g.rZ, 0, none⟩), .bool st], Sl 85 5 bd.ss.length g.v (scells (us bd.ss) g.gs), Sl 90 2 s.b.ps.length gg.1 (passC s.b.ps), Sl 5 1 s.b.bys.length gg.2 (u8s s.b.bys), SLs (BP 90 5) (g.gs.eraseIdx k) (bd.ss.eraseIdx k), RG g.rZ bd.sh (head2 bd k s).2, WR w (bs ++ (head2 bd k s).1 ++ (tellBits (((to - s.said : Nat) : Int))) ++ List.replicate (L - s.lb) true)]) (ks := [0,1,2,12,15,16,17]) (.cons rfl (.cons rfl (.cons rfl (.cons rfl (.cons rfl (.cons rfl (.cons rfl .nil))))))) (holds_pure ⟨Nat.le_refl _, hnn⟩ (holds_of_picks (by with_reducible repeat constructor))) ?_))))
   intro L base ih2
   refine Tr.pure fun ⟨hL1, hL2⟩ => ?_
   have hsh := needF_shift hpq2 hL1 hL2
   refine tr_seq (tr_seq (tr_draww (rem := [0,1,2,3,4,5,6,7,8,9,10,11,12,13,14]) (by kernel_rfl) (by kernel_rfl) rfl ?_))
   refine twm 0 [2,3,13,14] rfl (by kernel_rfl) rfl rfl (twm 1 [2,3,13,14] rfl (by kernel_rfl) rfl rfl (trw_pure 4 [5,11,12,13,14] rfl (by kernel_rfl) rfl (pv_fieldAddr runUnderlying85 rfl sizeOf3 rfl rfl) (twm 6 [8,9,10,11,12,13,14] rfl (by kernel_rfl) rfl rfl (twm 7 [8,9,10,11,12,13,14] rfl (by kernel_rfl) rfl rfl (trw_read 2 [3,13,14] rfl (by kernel_rfl) rfl (rv_indexAddr_sl runUnderlying38 sizeOf3 rfl rfl (by with_reducible repeat constructor) (by omega) (by omega)) ?_)))))
   refine trw_read 3 [13,14] rfl (by kernel_rfl) rfl (rv_load_sl isAgg3 rfl (by with_reducible repeat constructor) (idx1 (i64s_get hqm))) ?_
   refine trw_read 5 [11,12,13,14] rfl (by kernel_rfl) rfl (rv_load isAgg3 rfl (by with_reducible repeat constructor) rfl) ?_
   refine trw_read 8 [9,10,11,12,13,14] rfl (by kernel_rfl) rfl (rv_indexAddr_sl runUnderlying38 sizeOf3 rfl rfl (by with_reducible repeat constructor) (by omega) (by simp; omega)) ?_
   refine trw_read 9 [10,11,12,13,14] rfl (by kernel_rfl) rfl (rv_load_sl isAgg3 rfl (by with_reducible repeat constructor) (idx1 (nats_get hpm))) ?_
   refine trw_one 10 (by kernel_rfl) ?_
   refine trwat_eff rfl rfl rfl (ef_call rfl rfl call85 (r_log (n := p) (by omega)) (by with_reducible repeat constructor) fun x81 hx81 => ?_)
   dsimp only [List.cons_append, List.nil_append]
   refine ⟨?_, (rv_load isAgg3 rfl (by with_reducible repeat constructor) rfl), (rv_load_sl isAgg3 rfl (by with_reducible repeat constructor) (idx1 (i64s_get hqm))), (rv_indexAddr_sl runUnderlying38 sizeOf3 rfl rfl (by with_reducible repeat constructor) (by omega) (by omega)), trivial⟩
   refine trw_pure 11 [12,13,14] rfl (by kernel_rfl) rfl (pv_conv (pv_addI rfl rfl (by omega) (by omega)) (congrArg (Value.int .i64) (show (L : Int) + ((lg (p : Int) : Nat) : Int) = ((L + lg (p : Int) : Nat) : Int) from by simp))) ?_
   refine trw_pure 12 [13,14] rfl (by kernel_rfl) rfl (pv_conv (pv_convert runUnderlying3 runUnderlying104 rfl) (congrArg (Value.int .u64) (wrapu64_id (by omega) (by omega)))) ?_
   refine trw_pure 13 [14] rfl (by kernel_rfl) rfl (pv_shrI rfl rfl (by omega) (by omega)) ?_
   refine trw_pure 14 [] rfl (by kernel_rfl) rfl (pv_gtr rfl rfl) (trw_nil (tr_keep (ks := [0,1,2,12,15,16,17,85]) (.cons rfl (.cons rfl (.cons rfl (.cons rfl (.cons rfl (.cons rfl (.cons rfl (.cons rfl .nil)))))))) fun base => ?_))
   refine tr_if rfl (fun h3 => ?_) (fun h3 => ?_)
   ·rw [Int.toNat_natCast] at h3
    replace h3 := hsh.1 h3
    refine tr_skip (tr_block (tr_seq (tr_region (trl_pv (pv_fieldAddr runUnderlying85 rfl sizeOf3 rfl rfl) (trl_val (rv_load isAgg3 rfl (by with_reducible repeat constructor) rfl) ?_)))))
    refine trl_pv (pv_conv (pv_addI rfl rfl (by omega) (by omega)) (congrArg (Value.int .i64) (show (L : Int) + 1 = ((L + 1 : Nat) : Int) from by omega))) ?_
    refine trl_pv (pv_fieldAddr runUnderlying85 rfl sizeOf3 rfl rfl) (trl_eff0 (ef_store sizeOf3 rfl rfl (by first | rfl | assumption) (by with_reducible repeat constructor) rfl ?_))
    refine trl_nil (tr_region (tmv rfl (trl_eff (ef_call rfl rfl call35 (wr_bit (bs := bs ++ (head2 bd k s).1 ++ (tellBits (((to - s.said : Nat) : Int))) ++ List.replicate (L - s.lb) true) (by simp only [List.length_append, List.length_replicate]; omega)) (by with_reducible repeat constructor) fun x91 hx91 => ?_))))
    dsimp only [List.cons_append, List.nil_append]
    refine trl_nil ?_
    rw [show decide ((1 : Int) % 2 = 1) = true from rfl]
    refine tr_keep (ks := [0,1,2,12,15,16,17]) (.cons rfl (.cons rfl (.cons rfl (.cons rfl (.cons rfl (.cons rfl (.cons rfl .nil))))))) fun base => ?_
    refine tr_inBlock (tr_again ih2 (L + 1) (by first | omega | (dsimp only; omega)) (.cons rfl (.cons rfl (.cons rfl (.cons rfl (.cons rfl (.cons rfl (.cons rfl .nil))))))) (by rw [show L + 1 - s.lb = (L - s.lb) + 1 by omega, List.replicate_succ', ← List.append_assoc]; exact holds_pure ⟨by omega, by omega⟩ (holds_of_picks (by with_reducible repeat constructor))))
   ·rw [Int.toNat_natCast] at h3
    replace h3 : ¬ L < (needF s.lb ((segOf style to s).take (i + 1))) := fun h => h3 (hsh.2 h)
    obtain rfl : L = (needF s.lb ((segOf style to s).take (i + 1))) := by omega
    refine tr_exit rfl (tr_inBlock (tr_region (tmv rfl (trl_pv (pv_addI rfl rfl (by omega) (by omega)) ?_))))
    refine tas rfl (trl_nil (tr_again ih1 (i + 1) (by first | omega | (dsimp only; omega)) (.cons rfl (.cons rfl (.cons rfl (.cons rfl (.cons rfl (.cons rfl (.cons (keep_int rfl (by omega)) .nil))))))) (holds_pure ⟨by omega, hnl⟩ (holds_of_picks (by with_reducible repeat constructor)))))
  ·refine tr_exit rfl (tr_seq ?_)
   obtain rfl : i = (segOf style to s).length := by omega
   rw [List.take_length]
   refine tr_region (tmv rfl (trl_eff (ef_call rfl rfl call35 (wr_bit (bs := bs ++ (head2 bd k s).1 ++ (tellBits (((to - s.said : Nat) : Int))) ++ List.replicate ((needF s.lb (segOf style to s)) - s.lb) true) (by simp only [List.length_append, List.length_replicate]; omega)) (by with_reducible repeat constructor) fun x93 hx93 => ?_)))
   dsimp only [List.cons_append, List.nil_append]
   refine trl_nil ?_
   rw [show decide ((0 : Int) % 2 = 1) = false from rfl]
   refine tr_keep (ks := [0,1,2,12,15,16]) (.cons rfl (.cons rfl (.cons rfl (.cons rfl (.cons rfl (.cons rfl .nil)))))) fun base => ?_
   refine tr_seq (tr_seq (tr_region (tas rfl (trl_nil (tr_block (tr_while (α := Nat) (0) (fun i => (segOf style to s).length - i) (fun i => [(0, .pointer (some ⟨g.r, 0, none⟩)), (1, .pointer (some ⟨w, 0, none⟩)), (2, .int .i64 (k : Nat)), (12, .pointer (some ⟨r12, 0, none⟩)), (15, pv), (16, qv), (18, .int .i64 (i : Nat))]) (fun i => [pure' (i ≤ (segOf style to s).length), Sl 3 1 (segOf style to s).length pv (nats ((segOf style to s).map (·.1))), Sl 3 1 (segOf style to s).length qv (i64s ((segOf style to s).map (·.2))), pt r12 85 [.int .i64 s.b.pl, gg.1, gg.2, .int .i64 0, .int .i64 ((needF s.lb (segOf style to s)) : Nat)], pt g.r 83 [.int .i64 bd.planes, g.v, .pointer (some ⟨g.rF, 0, none⟩), .pointer (some ⟨g.rZ, 0, none⟩), .bool st], Sl 85 5 bd.ss.length g.v (scells (us bd.ss) g.gs), Sl 90 2 s.b.ps.length gg.1 (passC s.b.ps), Sl 5 1 s.b.bys.length gg.2 (u8s s.b.bys), SLs (BP 90 5) (g.gs.eraseIdx k) (bd.ss.eraseIdx k), RG g.rZ bd.sh (head2 bd k s).2, WR w (bs ++ (head2 bd k s).1 ++ (tellBits (((to - s.said : Nat) : Int))) ++ List.replicate ((needF s.lb (segOf style to s)) - s.lb) true ++ [false] ++ sizeBits (needF s.lb (segOf style to s)) ((segOf style to s).take i))]) (ks := [0,1,2,12,15,16,18]) (.cons rfl (.cons rfl (.cons rfl (.cons rfl (.cons rfl (.cons rfl (.cons rfl .nil))))))) (by rw [show sizeBits (needF s.lb (segOf style to s)) ((segOf style to s).take 0) = [] from rfl, List.append_nil]; exact holds_pure (Nat.zero_le _) (holds_of_picks (by with_reducible repeat constructor))) ?_))))))
   intro i2 base ih3
   refine Tr.pure fun hi2 => ?_
   refine tr_seq (tr_seq (tr_region (tmv rfl (tmv rfl (trl_val (rv_len_sl runUnderlying38 rfl (by with_reducible repeat constructor)) ?_)))))
   refine trl_pv (pv_lss rfl rfl) (trl_nil (tr_if rfl (fun h4 => ?_) (fun h4 => ?_)))
   ·obtain ⟨⟨p, q⟩, hpq2⟩ := get_some (l := (segOf style to s)) (i := i2) (by omega)
    have hp1 := hsgq _ (List.mem_of_getElem? hpq2)
    dsimp only at hp1
    have hqm : ((segOf style to s).map (·.2))[i2]? = some q := by simp [hpq2]
    have hpm : ((segOf style to s).map (·.1))[i2]? = some p := by simp [hpq2]
    have hnx := sizeBits_next (nd := (needF s.lb (segOf style to s))) hpq2
    have hszl := sizeBits_take_le (needF s.lb (segOf style to s)) (segOf style to s) i2
    have hlp := lg_le6 (p := p) (by omega)
    refine tr_skip (tr_seq (tr_block (tr_draww (rem := [0,1,2,3,4,5,6,7,8,9,10,11,12,13]) (by kernel_rfl) (by kernel_rfl) rfl ?_)))
    refine twm 0 [13] rfl (by kernel_rfl) rfl rfl (twm 1 [3,4,13] rfl (by kernel_rfl) rfl rfl (twm 2 [3,4,13] rfl (by kernel_rfl) rfl rfl (trw_pure 5 [6,12,13] rfl (by kernel_rfl) rfl (pv_fieldAddr runUnderlying85 rfl sizeOf3 rfl rfl) (twm 7 [9,10,11,12,13] rfl (by kernel_rfl) rfl rfl (twm 8 [9,10,11,12,13] rfl (by kernel_rfl) rfl rfl (trw_read 3 [4,13] rfl (by kernel_rfl) rfl (rv_indexAddr_sl runUnderlying38 sizeOf3 rfl rfl (by with_reducible repeat constructor) (by omega) (by omega)) ?_))))))
    refine trw_read 4 [13] rfl (by kernel_rfl) rfl (rv_load_sl isAgg3 rfl (by with_reducible repeat constructor) (idx1 (i64s_get hqm))) ?_
    refine trw_read 6 [12,13] rfl (by kernel_rfl) rfl (rv_load isAgg3 rfl (by with_reducible repeat constructor) rfl) ?_
    refine trw_read 9 [10,11,12,13] rfl (by kernel_rfl) rfl (rv_indexAddr_sl runUnderlying38 sizeOf3 rfl rfl (by with_reducible repeat constructor) (by omega) (by simp; omega)) ?_
    refine trw_read 10 [11,12,13] rfl (by kernel_rfl) rfl (rv_load_sl isAgg3 rfl (by with_reducible repeat constructor) (idx1 (nats_get hpm))) ?_
    refine trw_one 11 (by kernel_rfl) ?_
    refine trwat_eff rfl rfl rfl (ef_call rfl rfl call85 (r_log (n := p) (by omega)) (by with_reducible repeat constructor) fun x111 hx111 => ?_)
    dsimp only [List.cons_append, List.nil_append]
    refine ⟨?_, (rv_load isAgg3 rfl (by with_reducible repeat constructor) rfl), (rv_load_sl isAgg3 rfl (by with_reducible repeat constructor) (idx1 (i64s_get hqm))), (rv_indexAddr_sl runUnderlying38 sizeOf3 rfl rfl (by with_reducible repeat constructor) (by omega) (by omega)), trivial⟩
    refine trw_pure 12 [13] rfl (by kernel_rfl) rfl (pv_conv (pv_addI rfl rfl (by omega) (by omega)) (congrArg (Value.int .i64) (show (((needF s.lb (segOf style to s)) : Nat) : Int) + ((lg (p : Int) : Nat) : Int) = (((needF s.lb (segOf style to s)) + lg (p : Int) : Nat) : Int) from by simp))) ?_
    refine trw_one 13 (by kernel_rfl) ?_
    refine trwat_eff rfl rfl rfl (ef_call rfl rfl call86 (wr_bits (bs := bs ++ (head2 bd k s).1 ++ (tellBits (((to - s.said : Nat) : Int))) ++ List.replicate ((needF s.lb (segOf style to s)) - s.lb) true ++ [false] ++ sizeBits (needF s.lb (segOf style to s)) ((segOf style to s).take i2)) (by simp only [List.length_append, List.length_replicate, List.length_singleton]; omega)) (by with_reducible repeat constructor) fun x113 hx113 => ?_)
    dsimp only [List.cons_append, List.nil_append]
    refine ⟨?_, trivial⟩
    refine trw_nil (tr_keep (ks := [0,1,2,12,15,16,18]) (.cons rfl (.cons rfl (.cons rfl (.cons rfl (.cons rfl (.cons rfl (.cons rfl .nil))))))) fun base => ?_)
    refine tr_inBlock (tr_region (tmv rfl (trl_pv (pv_addI rfl rfl (by omega) (by omega)) ?_)))
    refine tas rfl (trl_nil (tr_again ih3 (i2 + 1) (by first | omega | (dsimp only; omega)) (.cons rfl (.cons rfl (.cons rfl (.cons rfl (.cons rfl (.cons rfl (.cons (keep_int rfl (by omega)) .nil))))))) (by rw [hnx, ← List.append_assoc]; exact holds_pure (by omega) (holds_of_picks (by with_reducible repeat constructor)))))
   ·rw [List.take_of_length_le (show (segOf style to s).length ≤ i2 by omega)]
    refine tr_exit rfl (tr_draww (rem := [0,1,2,3,4,5,6,7]) (by kernel_rfl) (by kernel_rfl) rfl ?_)
    refine twm 0 [1,2,3,6,7] rfl (by kernel_rfl) rfl rfl (twn 1 [2,3,6,7] rfl (by kernel_rfl) rfl rfl (trw_pure 2 [3,6,7] rfl (by kernel_rfl) rfl (pv_fieldAddr runUnderlying83 rfl sizeOf80 rfl rfl) (twm 4 [6,7] rfl (by kernel_rfl) rfl rfl (trw_read 3 [6,7] rfl (by kernel_rfl) rfl (rv_load isAgg80 rfl (by with_reducible repeat constructor) rfl) ?_))))
    refine trw_read 5 [6,7] rfl (by kernel_rfl) rfl (rv_load_agg isAgg85 sizeOf85 rfl (by with_reducible repeat constructor) rfl) ?_
    refine trw_read 6 [7] rfl (by kernel_rfl) rfl (rv_indexAddr_sl runUnderlying80 sizeOf85 rfl rfl (by with_reducible repeat constructor) (by omega) (by omega)) ?_
    refine trw_one 7 (by kernel_rfl) ?_
    refine trwat_eff0 rfl rfl rfl (ef_store_agg_sl sizeOf85 rfl rfl (by simp [one_int, hog.1, hog.2]) (by with_reducible repeat constructor) (by rw [sc_length (by rw [us_length]; exact hgl), us_length]; simp; omega) (by decide) (Eq.trans (sc_put5 (s' := unsay { s with lb := (needF s.lb (segOf style to s)) }) (g := gg) (k := k) (by rw [us_length]; exact hkk) hgg) (show _ = scells (us (bd.ss.set k { s with lb := (needF s.lb (segOf style to s)) })) g.gs from by rw [← us_set])) ?_)
    refine ⟨?_, trivial⟩
    refine trw_nil (tr_keep (ks := []) (.nil) fun base => ?_)
    refine Tr.fold (bp_fold (tp := 90) (tb := 5) (g := gg) (s := s)) (by with_reducible repeat constructor) ?_
    refine Tr.fold (sls_fold (A := BP 90 5) hgg hs) (by with_reducible repeat constructor) ?_
    refine tr_end func38 rfl .nil (by kernel_rfl) .nil () rfl trivial (holds_of_picks (by with_reducible repeat constructor))
end Go.Proofs
