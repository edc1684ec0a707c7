/- Contracts of functions that the law reaches, in every memory (part W4). -/
import Derived.Test.YtbmfgngjcpmjeaaGreatW3
import Derived.Test.YtbmfgngjcpmjeaaGreatPlainD
set_option linter.unusedVariables false
set_option linter.unusedSimpArgs false
set_option maxRecDepth 10000
namespace Go.Proofs
open Go.Eng Tryz
def I64 (x : Int) : Prop := -9223372036854775808 ≤ x ∧ x ≤ 9223372036854775807
structure ShAt (W : World) (p o : Nat) (s : Shp) : Prop where
  w : W.cell? ⟨p, o + 0, none⟩ = some (.int .i64 s.w)
  h : W.cell? ⟨p, o + 1, none⟩ = some (.int .i64 s.h)
  spare : W.cell? ⟨p, o + 2, none⟩ = some (.int .i64 s.spare)
  planes : W.cell? ⟨p, o + 3, none⟩ = some s.pv
  ns : W.cell? ⟨p, o + 4, none⟩ = some s.nv
  rp : RI W s.pv s.planes
  rn : RI W s.nv s.ns
def RSh (W : World) (v : Value) (l : List Shp) (p o : Nat) : Prop := RV v l.length p o ∧ ∀ i s, l[i]? = some s → ShAt W p (o + i * 5) s
def ptrs (G : List Gd) : List Value := G.map fun g => Value.pointer (some ⟨g.r, 0, none⟩)
theorem ptrs_push (G : List Gd) (g : Gd) : ptrs G ++ [.pointer (some ⟨g.r, 0, none⟩)] = ptrs (G ++ [g]) := by simp [ptrs]
theorem rb_len {g : Gd} {bd : Bd} {L M : List SL} (hp : Pick (RB g bd) L M) {F : Fm} {w : World} (hw : Holds L F w) : g.gs.length = bd.ss.length := by
  obtain ⟨st, h, _⟩ := rb_open F w M (hw.perm hp.perm)
  exact h.1
theorem bdsAt_succ (style : Int) (l : List Shp) (n : Nat) : bdsAt style l n ++ [bdF style n (l.getD n default)] = bdsAt style l (n + 1) := by unfold bdsAt; rw [List.range_succ, List.map_append]; rfl
theorem emsAt_succ (l : List Shp) (n : Nat) : emsAt l n ++ [newBd (mostF (l.getD n default)) (sideF (l.getD n default).w) (sideF (l.getD n default).h)] = emsAt l (n + 1) := by unfold emsAt; rw [List.range_succ, List.map_append]; rfl
theorem bdsAt_length (style : Int) (l : List Shp) (n : Nat) : (bdsAt style l n).length = n := by simp [bdsAt]
theorem emsAt_length (l : List Shp) (n : Nat) : (emsAt l n).length = n := by simp [emsAt]
structure Mk where
  a : Value
  b : Value
  c : Value
  d : Value
  ga : List Gd
  gb : List Gd
  gc : List Gd
  gd : List Gd
structure MkOk (m : Mk) (n : Nat) : Prop where
  a : one? m.a = true
  b : one? m.b = true
  c : one? m.c = true
  d : one? m.d = true
  la : m.ga.length = n
  lb : m.gb.length = n
  lc : m.gc.length = n
  ld : m.gd.length = n
set_option maxHeartbeats 2000000 in
theorem k_make {W : World} {lv : Value} {l : List Shp} {p o : Nat} {style : Int} (hR : RSh W lv l p o) (hl : l.length ≤ 1000) (hs0 : 0 ≤ style) (hs1 : style ≤ 63) : Spec Tryz.prog 9 [lv, .int .i64 style] [ro W]
    (fun m : Mk => ⟨.tuple #[m.a, m.b, m.c, m.d], MkOk m l.length, [ro W, Sl 43 1 l.length m.a (ptrs m.ga), SLs PB m.ga (bdsAt style l l.length), Sl 43 1 l.length m.b (ptrs m.gb), SLs PB m.gb (emsAt l l.length), Sl 47 1 l.length m.c (ptrs m.gc), SLs RB m.gc (bdsAt style l l.length), Sl 47 1 l.length m.d (ptrs m.gd), SLs RB m.gd (emsAt l l.length)]⟩) := by
 refine spec_of_tr func9 rfl ntmps9 (by kernel_rfl) ?_
 obtain ⟨hRV, hcl⟩ := hR
 refine tr_seq (tr_region (tas rfl (tas rfl (tas rfl (tas rfl (trl_nil (tr_seq (tr_region (tas rfl (tas rfl (trl_nil (tr_seq (tr_region ?_)))))))))))))
 refine tas rfl (tas rfl (trl_nil (tr_seq (tr_seq (tr_region (tas rfl (trl_nil ?_)))))))
 refine tr_empty 43 1 none ?_
 refine tr_empty 43 1 none ?_
 refine tr_empty 47 1 none ?_
 refine tr_empty 47 1 none ?_
 refine Tr.fold (sls_nil (A := PB) (m := bdsAt style l 0)) .nil ?_
 refine Tr.fold (sls_nil (A := PB) (m := emsAt l 0)) .nil ?_
 refine Tr.fold (sls_nil (A := RB) (m := bdsAt style l 0)) .nil ?_
 refine Tr.fold (sls_nil (A := RB) (m := emsAt l 0)) .nil ?_
 refine tr_block (tr_while (α := Nat × Mk) ((0, ⟨.slice none 0 0, .slice none 0 0, .slice none 0 0, .slice none 0 0, [], [], [], []⟩)) (fun z => l.length - z.1) (fun z => [(0, lv), (1, .int .i64 style), (8, z.2.a), (9, z.2.b), (10, z.2.c), (11, z.2.d), (12, .int .i64 ((z.1 : Nat) : Int))]) (fun z => [pure' (z.1 ≤ l.length ∧ MkOk z.2 z.1), ro W, Sl 43 1 z.1 z.2.a (ptrs z.2.ga), SLs PB z.2.ga (bdsAt style l z.1), Sl 43 1 z.1 z.2.b (ptrs z.2.gb), SLs PB z.2.gb (emsAt l z.1), Sl 47 1 z.1 z.2.c (ptrs z.2.gc), SLs RB z.2.gc (bdsAt style l z.1), Sl 47 1 z.1 z.2.d (ptrs z.2.gd), SLs RB z.2.gd (emsAt l z.1)]) (ks := [0,1,8,9,10,11,12]) (.cons rfl (.cons rfl (.cons rfl (.cons rfl (.cons rfl (.cons rfl (.cons rfl .nil))))))) (by dsimp only; rw [show ptrs [] = [] from rfl]; exact holds_pure ⟨Nat.zero_le _, ⟨rfl, rfl, rfl, rfl, rfl, rfl, rfl, rfl⟩⟩ (holds_of_picks (by with_reducible repeat constructor))) ?_)
 intro ⟨i, m⟩ base ih0
 refine Tr.pure fun ⟨hi, hm⟩ => ?_
 dsimp only at hi hm ⊢
 refine tr_seq (tr_seq (tr_region (tmv rfl (tmv rfl (trl_pv (pv_len_r runUnderlying22 rfl hRV) (trl_pv (pv_lss rfl rfl) (trl_nil (tr_if rfl (fun h0 => ?_) (fun h0 => ?_)))))))))
 ·refine tr_skip (tr_seq (tr_block (tr_seq ?_)))
  have hlt : i < l.length := by omega
  obtain ⟨s, hs⟩ := get_some (l := l) (i := i) hlt
  have hsh := hcl i s hs
  have hsd : l.getD i default = s := by rw [List.getD_eq_getElem?_getD, hs]; rfl
  have hsw := sideF_ok s.w
  have hsg := sideF_ok s.h
  have hnf := numF_le s
  have hmf := mostF_ok s
  refine tr_draww (rem := [0,1,2,3,4,5,6,7,8,9,10,11,12,13]) (by kernel_rfl) (by kernel_rfl) rfl ?_
  refine twm 0 [2,3,4,5,11,12,13] rfl (by kernel_rfl) rfl rfl (twm 1 [2,3,4,5,11,12,13] rfl (by kernel_rfl) rfl rfl (twm 6 [8,9,10,11,12,13] rfl (by kernel_rfl) rfl rfl (twm 7 [8,9,10,11,12,13] rfl (by kernel_rfl) rfl rfl (trw_pure 2 [3,4,5,11,12,13] rfl (by kernel_rfl) rfl (pv_indexAddr_r runUnderlying22 sizeOf46 rfl rfl hRV (Int.natCast_nonneg _) (Int.ofNat_lt.2 hlt)) (trw_pure 3 [4,5,11,12,13] rfl (by kernel_rfl) rfl (pv_fieldAddr runUnderlying46 rfl sizeOf3 rfl rfl) (trw_read 4 [5,11,12,13] rfl (by kernel_rfl) rfl (rv_load_rd isAgg3 rfl (rd_ro (by with_reducible repeat constructor) (show W.cell? ⟨p, o + ((i : Nat) : Int).toNat * 5 + 0, none⟩ = some _ from by rw [Int.toNat_natCast]; exact hsh.w))) ?_))))))
  refine trw_pure 8 [9,10,11,12,13] rfl (by kernel_rfl) rfl (pv_indexAddr_r runUnderlying22 sizeOf46 rfl rfl hRV (Int.natCast_nonneg _) (Int.ofNat_lt.2 hlt)) (trw_pure 9 [10,11,12,13] rfl (by kernel_rfl) rfl (pv_fieldAddr runUnderlying46 rfl sizeOf3 rfl rfl) (trw_read 10 [11,12,13] rfl (by kernel_rfl) rfl (rv_load_rd isAgg3 rfl (rd_ro (by with_reducible repeat constructor) (show W.cell? ⟨p, o + ((i : Nat) : Int).toNat * 5 + 1, none⟩ = some _ from by rw [Int.toNat_natCast]; exact hsh.h))) ?_))
  refine trw_one 5 (by kernel_rfl) ?_
  refine trwat_eff rfl rfl rfl (ef_call rfl rfl call8 (k_within (z := s.w) (n := 4) (by decide) (by decide)) (by with_reducible repeat constructor) fun x33 hx33 => ?_)
  dsimp only [List.cons_append, List.nil_append]
  refine ⟨?_, (rv_load_rd isAgg3 rfl (rd_ro (by with_reducible repeat constructor) (show W.cell? ⟨p, o + ((i : Nat) : Int).toNat * 5 + 1, none⟩ = some _ from by rw [Int.toNat_natCast]; exact hsh.h))), trivial⟩
  refine trw_one 11 (by kernel_rfl) ?_
  refine trwat_eff rfl rfl rfl (ef_call rfl rfl call8 (k_within (z := s.h) (n := 4) (by decide) (by decide)) (by with_reducible repeat constructor) fun x39 hx39 => ?_)
  dsimp only [List.cons_append, List.nil_append]
  refine ⟨?_, trivial⟩
  refine trw_pure 12 [13] rfl (by kernel_rfl) rfl (pv_conv (pv_assign rfl) (congrArg (Value.int .i64) (show s.w % 4 = ((sideF s.w : Nat) : Int) from hsw.2.symm))) (trw_pure 13 [] rfl (by kernel_rfl) rfl (pv_conv (pv_assign rfl) (congrArg (Value.int .i64) (show s.h % 4 = ((sideF s.h : Nat) : Int) from hsg.2.symm))) (trw_nil (tr_keep (ks := [0,1,8,9,10,11,12,13,14]) (.cons rfl (.cons rfl (.cons rfl (.cons rfl (.cons rfl (.cons rfl (.cons rfl (.cons rfl (.cons rfl .nil))))))))) fun base => ?_)))
  refine tr_seq (tr_region (tmv rfl (tmv rfl (trl_pv (pv_indexAddr_r runUnderlying22 sizeOf46 rfl rfl hRV (Int.natCast_nonneg _) (Int.ofNat_lt.2 hlt)) (trl_pv (pv_fieldAddr runUnderlying46 rfl sizeOf3 rfl rfl) (trl_val (rv_load_rd isAgg3 rfl (rd_ro (by with_reducible repeat constructor) (show W.cell? ⟨p, o + ((i : Nat) : Int).toNat * 5 + 2, none⟩ = some _ from by rw [Int.toNat_natCast]; exact hsh.spare))) ?_))))))
  refine trl_eff (ef_call rfl rfl call8 (k_within (z := s.spare) (n := 4) (by decide) (by decide)) (by with_reducible repeat constructor) fun x45 hx45 => ?_)
  dsimp only [List.cons_append, List.nil_append]
  refine trl_pv (pv_conv (pv_addI rfl rfl (by omega) (by omega)) (congrArg (Value.int .i64) (show 12 + s.spare % 4 = mostF s from rfl))) ?_
  refine tas rfl (trl_nil (tr_keep (ks := [0,1,8,9,10,11,12,13,14,15]) (.cons rfl (.cons rfl (.cons rfl (.cons rfl (.cons rfl (.cons rfl (.cons rfl (.cons rfl (.cons rfl (.cons rfl .nil)))))))))) fun base => ?_))
  refine tr_seq (tr_region (tmv rfl (tmv rfl (tmv rfl (trl_eff (ef_call rfl rfl call15 (p_newband (w := sideF s.w) (h := sideF s.h) (planes := mostF s) (by omega) (by omega)) (by with_reducible repeat constructor) fun bp hx50 => ?_))))))
  dsimp only [List.cons_append, List.nil_append]
  refine tmv rfl (tmv rfl (tmv rfl (trl_eff (ef_call rfl rfl call16 (r_newband (w := sideF s.w) (h := sideF s.h) (planes := mostF s) (by omega) (by omega)) (by with_reducible repeat constructor) fun bq hx54 => ?_))))
  dsimp only [List.cons_append, List.nil_append]
  refine tas rfl (tas rfl (trl_nil (tr_keep (ks := [0,1,8,9,10,11,12,13,14,15,16,17]) (.cons rfl (.cons rfl (.cons rfl (.cons rfl (.cons rfl (.cons rfl (.cons rfl (.cons rfl (.cons rfl (.cons rfl (.cons rfl (.cons rfl .nil)))))))))))) fun base => ?_)))
  refine tr_seq (tr_seq (tr_region (tas rfl (trl_nil ?_))))
  rw [← bdAt_zero style i s]
  refine tr_block (tr_while (α := Nat × Gd × Gd) ((0, bp, bq)) (fun z => numF s - z.1) (fun z => [(0, lv), (1, .int .i64 style), (8, m.a), (9, m.b), (10, m.c), (11, m.d), (12, .int .i64 ((i : Nat) : Int)), (13, .int .i64 ((sideF s.w : Nat) : Int)), (14, .int .i64 ((sideF s.h : Nat) : Int)), (15, .int .i64 (mostF s)), (16, .pointer (some ⟨z.2.1.r, 0, none⟩)), (17, .pointer (some ⟨z.2.2.r, 0, none⟩)), (18, .int .i64 ((z.1 : Nat) : Int))]) (fun z => [pure' (z.1 ≤ numF s), ro W, PB z.2.1 (bdAt style i s z.1), RB z.2.2 (bdAt style i s z.1), Sl 43 1 i m.a (ptrs m.ga), SLs PB m.ga (bdsAt style l i), Sl 43 1 i m.b (ptrs m.gb), SLs PB m.gb (emsAt l i), Sl 47 1 i m.c (ptrs m.gc), SLs RB m.gc (bdsAt style l i), Sl 47 1 i m.d (ptrs m.gd), SLs RB m.gd (emsAt l i)]) (ks := [0,1,8,9,10,11,12,13,14,15,16,17,18]) (.cons rfl (.cons rfl (.cons rfl (.cons rfl (.cons rfl (.cons rfl (.cons rfl (.cons rfl (.cons rfl (.cons rfl (.cons rfl (.cons rfl (.cons rfl .nil))))))))))))) (holds_pure (Nat.zero_le _) (holds_of_picks (by with_reducible repeat constructor))) ?_)
  intro ⟨k, g, q⟩ base ih1
  refine Tr.pure fun hk => ?_
  dsimp only at hk ⊢
  refine tr_seq (tr_seq ?_)
  have hmul : ((numF s : Nat) : Int) = ((sideF s.w : Nat) : Int) * ((sideF s.h : Nat) : Int) := by unfold numF; simp
  refine tr_region (tmv rfl (tmv rfl (tmv rfl (trl_pv (pv_conv (pv_mulI rfl rfl (by rw [← hmul]; omega) (by rw [← hmul]; omega)) (congrArg (Value.int .i64) (show ((sideF s.w : Nat) : Int) * ((sideF s.h : Nat) : Int) = ((numF s : Nat) : Int) from hmul.symm))) ?_))))
  refine trl_pv (pv_lss rfl rfl) (trl_nil (tr_if rfl (fun h1 => ?_) (fun h1 => ?_)))
  ·refine tr_skip (tr_seq (tr_block (tr_seq (tr_region (tas rfl (trl_nil (tr_seq (tr_seq ?_))))))))
   have hkl : k < numF s := by omega
   obtain ⟨p1, o1, hRVp, hclp⟩ := hsh.rp
   refine tr_region (tmv rfl (tmv rfl (trl_pv (pv_indexAddr_r runUnderlying22 sizeOf46 rfl rfl hRV (Int.natCast_nonneg _) (Int.ofNat_lt.2 hlt)) (trl_pv (pv_fieldAddr runUnderlying46 rfl sizeOf38 rfl rfl) (trl_val (rv_load_rd isAgg38 rfl (rd_ro (by with_reducible repeat constructor) (show W.cell? ⟨p, o + ((i : Nat) : Int).toNat * 5 + 3, none⟩ = some _ from by rw [Int.toNat_natCast]; exact hsh.planes))) ?_)))))
   refine trl_pv (pv_len_r runUnderlying38 rfl hRVp) (trl_pv (pv_gtr rfl rfl) (trl_nil (tr_keep (ks := [0,1,8,9,10,11,12,13,14,15,16,17,18,19,68]) (.cons rfl (.cons rfl (.cons rfl (.cons rfl (.cons rfl (.cons rfl (.cons rfl (.cons rfl (.cons rfl (.cons rfl (.cons rfl (.cons rfl (.cons rfl (.cons rfl (.cons rfl .nil))))))))))))))) fun base => ?_)))
   refine tr_join (α := Unit) (fun _ => [(0, lv), (1, .int .i64 style), (8, m.a), (9, m.b), (10, m.c), (11, m.d), (12, .int .i64 ((i : Nat) : Int)), (13, .int .i64 ((sideF s.w : Nat) : Int)), (14, .int .i64 ((sideF s.h : Nat) : Int)), (15, .int .i64 (mostF s)), (16, .pointer (some ⟨g.r, 0, none⟩)), (17, .pointer (some ⟨q.r, 0, none⟩)), (18, .int .i64 ((k : Nat) : Int)), (19, .int .i64 ((plF s k : Nat) : Int))]) (fun _ => [ro W, PB g (bdAt style i s k), RB q (bdAt style i s k), Sl 43 1 i m.a (ptrs m.ga), SLs PB m.ga (bdsAt style l i), Sl 43 1 i m.b (ptrs m.gb), SLs PB m.gb (emsAt l i), Sl 47 1 i m.c (ptrs m.gc), SLs RB m.gc (bdsAt style l i), Sl 47 1 i m.d (ptrs m.gd), SLs RB m.gd (emsAt l i)]) (fun K2 hK2 => ?_) ?_
   ·refine tr_if rfl (fun h2 => ?_) (fun h2 => ?_)
    ·have hn0 : 0 < s.planes.length := by omega
     have hmod : k % s.planes.length < s.planes.length := Nat.mod_lt _ hn0
     obtain ⟨x, hx⟩ := get_some (l := s.planes) (i := k % s.planes.length) hmod
     have hcx := (hclp _ _ hx).1
     have hpl : ((plF s k : Nat) : Int) = x % 13 := by unfold plF; rw [if_neg (by omega), List.getD_eq_getElem?_getD, hx]; show ((x % 13).toNat : Int) = x % 13; omega
     refine tr_draww (rem := [0,1,2,3,4,5,6,7,8,9,10,11,12,13,14,15,16]) (by kernel_rfl) (by kernel_rfl) rfl ?_
     refine twm 0 [2,3,4,13,14,15,16] rfl (by kernel_rfl) rfl rfl (twm 1 [2,3,4,13,14,15,16] rfl (by kernel_rfl) rfl rfl (twm 5 [12,13,14,15,16] rfl (by kernel_rfl) rfl rfl (twm 6 [8,9,10,11,12,13,14,15,16] rfl (by kernel_rfl) rfl rfl (twm 7 [8,9,10,11,12,13,14,15,16] rfl (by kernel_rfl) rfl rfl (trw_pure 2 [3,4,13,14,15,16] rfl (by kernel_rfl) rfl (pv_indexAddr_r runUnderlying22 sizeOf46 rfl rfl hRV (Int.natCast_nonneg _) (Int.ofNat_lt.2 hlt)) (trw_pure 3 [4,13,14,15,16] rfl (by kernel_rfl) rfl (pv_fieldAddr runUnderlying46 rfl sizeOf38 rfl rfl) (trw_read 4 [13,14,15,16] rfl (by kernel_rfl) rfl (rv_load_rd isAgg38 rfl (rd_ro (by with_reducible repeat constructor) (show W.cell? ⟨p, o + ((i : Nat) : Int).toNat * 5 + 3, none⟩ = some _ from by rw [Int.toNat_natCast]; exact hsh.planes))) ?_)))))))
     refine trw_pure 8 [9,10,11,12,13,14,15,16] rfl (by kernel_rfl) rfl (pv_indexAddr_r runUnderlying22 sizeOf46 rfl rfl hRV (Int.natCast_nonneg _) (Int.ofNat_lt.2 hlt)) (trw_pure 9 [10,11,12,13,14,15,16] rfl (by kernel_rfl) rfl (pv_fieldAddr runUnderlying46 rfl sizeOf38 rfl rfl) (trw_read 10 [11,12,13,14,15,16] rfl (by kernel_rfl) rfl (rv_load_rd isAgg38 rfl (rd_ro (by with_reducible repeat constructor) (show W.cell? ⟨p, o + ((i : Nat) : Int).toNat * 5 + 3, none⟩ = some _ from by rw [Int.toNat_natCast]; exact hsh.planes))) ?_))
     refine trw_pure 11 [12,13,14,15,16] rfl (by kernel_rfl) rfl (pv_len_r runUnderlying38 rfl hRVp) (trw_pure 12 [13,14,15,16] rfl (by kernel_rfl) rfl (pv_conv (pv_remI rfl rfl (by omega) (by omega)) (congrArg (Value.int .i64) (show (k : Int) % (s.planes.length : Int) = ((k % s.planes.length : Nat) : Int) from by simp))) ?_)
     refine trw_pure 13 [14,15,16] rfl (by kernel_rfl) rfl (pv_indexAddr_r runUnderlying38 sizeOf3 rfl rfl hRVp (Int.natCast_nonneg _) (Int.ofNat_lt.2 hmod)) (trw_read 14 [15,16] rfl (by kernel_rfl) rfl (rv_load_rd isAgg3 rfl (rd_ro (by with_reducible repeat constructor) (show W.cell? ⟨p1, o1 + ((k % s.planes.length : Nat) : Int).toNat * 1, none⟩ = some (.int .i64 x) from by rw [Int.toNat_natCast, Nat.mul_one]; exact hcx))) ?_)
     refine trw_one 15 (by kernel_rfl) ?_
     refine trwat_eff rfl rfl rfl (ef_call rfl rfl call8 (k_within (z := x) (n := 13) (by decide) (by decide)) (by with_reducible repeat constructor) fun x84 hx84 => ?_)
     dsimp only [List.cons_append, List.nil_append]
     refine ⟨?_, trivial⟩
     refine trw_pure 16 [] rfl (by kernel_rfl) rfl (pv_conv (pv_assign rfl) (congrArg (Value.int .i64) (show x % 13 = ((plF s k : Nat) : Int) from hpl.symm))) (trw_nil (tr_keep (ks := [0,1,8,9,10,11,12,13,14,15,16,17,18,19]) (.cons rfl (.cons rfl (.cons rfl (.cons rfl (.cons rfl (.cons rfl (.cons rfl (.cons rfl (.cons rfl (.cons rfl (.cons rfl (.cons rfl (.cons rfl (.cons rfl .nil)))))))))))))) fun base => ?_))
     refine tr_meet hK2 () (.cons rfl (.cons rfl (.cons rfl (.cons rfl (.cons rfl (.cons rfl (.cons rfl (.cons rfl (.cons rfl (.cons rfl (.cons rfl (.cons rfl (.cons rfl (.cons rfl .nil)))))))))))))) (holds_of_picks (by with_reducible repeat constructor))
    ·refine tr_skip (tr_meet hK2 () (.cons rfl (.cons rfl (.cons rfl (.cons rfl (.cons rfl (.cons rfl (.cons rfl (.cons rfl (.cons rfl (.cons rfl (.cons rfl (.cons rfl (.cons rfl (.cons (keep_int rfl (show (0 : Int) = ((plF s k : Nat) : Int) from by unfold plF; rw [if_pos (by omega)]; rfl)) .nil)))))))))))))) (holds_of_picks (by with_reducible repeat constructor)))
   ·intro u base
    refine tr_seq ?_
    have hpl := plF_le s k
    have hbo := blkF_ok style i s k
    have hbl := hbo.len
    have hbs := hbo.size
    refine tr_region (tmv rfl (trl_pv (pv_conv (pv_remI rfl rfl (by omega) (by omega)) (congrArg (Value.int .i64) (show (i : Int) % 4 = ((i % 4 : Nat) : Int) from by omega))) ?_))
    refine tmv rfl (tmv rfl (tmv rfl (tmv rfl (trl_pv (pv_indexAddr_r runUnderlying22 sizeOf46 rfl rfl hRV (Int.natCast_nonneg _) (Int.ofNat_lt.2 hlt)) (trl_pv (pv_fieldAddr runUnderlying46 rfl sizeOf38 rfl rfl) (trl_val (rv_load_rd isAgg38 rfl (rd_ro (by with_reducible repeat constructor) (show W.cell? ⟨p, o + ((i : Nat) : Int).toNat * 5 + 4, none⟩ = some _ from by rw [Int.toNat_natCast]; exact hsh.ns))) ?_))))))
    refine trl_eff (ef_call rfl rfl call18 (k_values (w := 3) (h := 5) (pl := plF s k) (by decide) (by decide) (by omega) hsh.rn) (by with_reducible repeat constructor) fun vv hx95 => ?_)
    dsimp only [List.cons_append, List.nil_append]
    rw [show valsF (plF s k) s.ns (3 * 5) = blkV s k from rfl]
    refine trl_eff (ef_call rfl rfl call17 (k_encode (w := 3) (h := 5) (band := ((i % 4 : Nat) : Int)) (style := style) (v := blkV s k) (vv := vv) (by decide) (by decide) (by decide) (by decide) (by omega) (by omega) hs0 hs1 (blkV_length s k) (blkV_ok s k)) (by with_reducible repeat constructor) fun bk hbk => ?_)
    dsimp only [List.cons_append, List.nil_append]
    refine tmv rfl (trl_pv (pv_extract rfl rfl) (trl_pv (pv_extract rfl rfl) (trl_eff (ef_alloc zeroValue51 (by dsimp only [cellsL, List.toList_toArray]) fun r20 => ?_))))
    refine trl_eff0 (ef_store_agg sizeOf51 rfl rfl (by simp only [List.all_cons, List.all_nil, hbk.1, hbk.2, one_int]; rfl) (by with_reducible repeat constructor) rfl ?_)
    refine tas rfl (trl_nil ?_)
    rw [show codeF 3 5 ((i % 4 : Nat) : Int) style (blkV s k) = blkF style i s k from rfl]
    refine tr_keep (ks := [0,1,8,9,10,11,12,13,14,15,16,17,18,20]) (.cons rfl (.cons rfl (.cons rfl (.cons rfl (.cons rfl (.cons rfl (.cons rfl (.cons rfl (.cons rfl (.cons rfl (.cons rfl (.cons rfl (.cons rfl (.cons rfl .nil)))))))))))))) fun base => ?_
    refine tr_seq ?_
    refine Tr.fact (fun F w hw => pb_len (g := g) (bd := bdAt style i s k) (by with_reducible repeat constructor) hw) fun hgl => ?_
    refine Tr.fact (fun F w hw => rb_len (g := q) (bd := bdAt style i s k) (by with_reducible repeat constructor) hw) fun hql => ?_
    have hsl : (bdAt style i s k).ss.length = numF s := ssAt_length hk
    obtain ⟨gg, hgg⟩ := get_some (l := g.gs) (i := k) (by omega)
    obtain ⟨qq, hqq⟩ := get_some (l := q.gs) (i := k) (by omega)
    have hput : ({ bdAt style i s k with ss := (bdAt style i s k).ss.set k { (⟨noBk, 0, 3⟩ : Bs) with b := ⟨((planesF (blkV s k) : Nat) : Int), (blkF style i s k).ps, (blkF style i s k).bys⟩ } } : Bd) = bdAt style i s (k + 1) := bdAt_put hkl
    refine tr_region (tmv rfl (tmv rfl (trl_val (rv_load_agg isAgg51 sizeOf51 rfl (by with_reducible repeat constructor) rfl) ?_)))
    refine trl_eff (ef_call rfl rfl call20 (k_of (pl := ((planesF (blkV s k) : Nat) : Int)) (pv := bk.1) (bv := bk.2) (ps := (blkF style i s k).ps) (by omega) hbk.1 hbk.2) (by with_reducible repeat constructor) fun ov hov => ?_)
    dsimp only [List.cons_append, List.nil_append]
    refine trl_eff (ef_call rfl rfl call19 (p_add (r := g.r) (k := k) (g := g) (bd := bdAt style i s k) (s := ⟨noBk, 0, 3⟩) (gg := gg) (pl := ((planesF (blkV s k) : Nat) : Int)) (pv := ov) (bv := bk.2) (ps := (blkF style i s k).ps) (bys := (blkF style i s k).bys) rfl (ssAt_get hkl) hgg (by omega) (by omega) (by omega)) (by with_reducible repeat constructor) fun ax hax => ?_)
    dsimp only [List.cons_append, List.nil_append]
    refine trl_nil ?_
    rw [hput]
    refine tr_region (tmv rfl (tmv rfl (trl_val (rv_load_agg isAgg51 sizeOf51 rfl (by with_reducible repeat constructor) rfl) ?_)))
    refine trl_eff (ef_call rfl rfl call21 (r_add (k := k) (g := q) (bd := bdAt style i s k) (s := ⟨noBk, 0, 3⟩) (gg := qq) (pl := ((planesF (blkV s k) : Nat) : Int)) (pv := bk.1) (bv := bk.2) (ps := (blkF style i s k).ps) (bys := (blkF style i s k).bys) (ssAt_get hkl) hqq (by omega)) (by with_reducible repeat constructor) fun x107 hx107 => ?_)
    dsimp only [List.cons_append, List.nil_append]
    refine trl_nil ?_
    rw [hput]
    refine tr_keep (ks := [0,1,8,9,10,11,12,13,14,15,16,17,18]) (.cons rfl (.cons rfl (.cons rfl (.cons rfl (.cons rfl (.cons rfl (.cons rfl (.cons rfl (.cons rfl (.cons rfl (.cons rfl (.cons rfl (.cons rfl .nil))))))))))))) fun base => ?_
    refine tr_inBlock (tr_region (tmv rfl (trl_pv (pv_addI rfl rfl (by omega) (by omega)) ?_)))
    refine tas rfl (trl_nil (tr_again ih1 (k + 1, { g with gs := g.gs.set k ax }, { q with gs := q.gs.set k (bk.1, bk.2) }) (by first | omega | (dsimp only; omega)) (.cons rfl (.cons rfl (.cons rfl (.cons rfl (.cons rfl (.cons rfl (.cons rfl (.cons rfl (.cons rfl (.cons rfl (.cons rfl (.cons rfl (.cons rfl .nil))))))))))))) (holds_pure (by omega) (holds_of_picks (by with_reducible repeat constructor)))))
  ·refine tr_exit rfl (tr_seq ?_)
   have hke : k = numF s := by omega
   subst hke
   refine tr_region (tmv rfl (tmv rfl (trl_eff (ef_buildSlice runUnderlying26 sizeOf43 zeroValue43 rfl rfl rfl rfl rfl (by dsimp only [flatC, cellsL, List.toList_toArray, List.cons_append, List.nil_append, List.append_nil]) fun r110 => ?_))))
   refine trl_eff (ef_append runUnderlying26 runUnderlying26 typeInfo43 sizeOf43 zeroValue43 rfl rfl rfl (by with_reducible repeat constructor) (reads_pt (by with_reducible repeat constructor) rfl) rfl (by simp [one?]) (by rw [show Tryz.t43.bytes = 8 from rfl]; omega) fun v111 ho111 => ?_)
   refine tmv rfl (tmv rfl (tmv rfl (tmv rfl (trl_eff (ef_call rfl rfl call15 (p_newband (w := sideF s.w) (h := sideF s.h) (planes := mostF s) (by omega) (by omega)) (by with_reducible repeat constructor) fun bp2 hx116 => ?_)))))
   dsimp only [List.cons_append, List.nil_append]
   refine trl_eff (ef_buildSlice runUnderlying26 sizeOf43 zeroValue43 rfl rfl rfl rfl rfl (by dsimp only [flatC, cellsL, List.toList_toArray, List.cons_append, List.nil_append, List.append_nil]) fun r117 => ?_)
   refine trl_eff (ef_append runUnderlying26 runUnderlying26 typeInfo43 sizeOf43 zeroValue43 rfl rfl rfl (by with_reducible repeat constructor) (reads_pt (by with_reducible repeat constructor) rfl) rfl (by simp [one?]) (by rw [show Tryz.t43.bytes = 8 from rfl]; omega) fun v118 ho118 => ?_)
   refine tas rfl (tas rfl (trl_nil (tr_keep (ks := [0,1,8,9,10,11,12,13,14,15,17]) (.cons rfl (.cons rfl (.cons rfl (.cons rfl (.cons rfl (.cons rfl (.cons rfl (.cons rfl (.cons rfl (.cons rfl (.cons rfl .nil))))))))))) fun base => ?_)))
   refine tr_region (tmv rfl (tmv rfl (trl_eff (ef_buildSlice runUnderlying27 sizeOf47 zeroValue47 rfl rfl rfl rfl rfl (by dsimp only [flatC, cellsL, List.toList_toArray, List.cons_append, List.nil_append, List.append_nil]) fun r121 => ?_))))
   refine trl_eff (ef_append runUnderlying27 runUnderlying27 typeInfo47 sizeOf47 zeroValue47 rfl rfl rfl (by with_reducible repeat constructor) (reads_pt (by with_reducible repeat constructor) rfl) rfl (by simp [one?]) (by rw [show Tryz.t47.bytes = 8 from rfl]; omega) fun v122 ho122 => ?_)
   refine tmv rfl (tmv rfl (tmv rfl (tmv rfl (trl_eff (ef_call rfl rfl call16 (r_newband (w := sideF s.w) (h := sideF s.h) (planes := mostF s) (by omega) (by omega)) (by with_reducible repeat constructor) fun bq2 hx127 => ?_)))))
   dsimp only [List.cons_append, List.nil_append]
   refine trl_eff (ef_buildSlice runUnderlying27 sizeOf47 zeroValue47 rfl rfl rfl rfl rfl (by dsimp only [flatC, cellsL, List.toList_toArray, List.cons_append, List.nil_append, List.append_nil]) fun r128 => ?_)
   refine trl_eff (ef_append runUnderlying27 runUnderlying27 typeInfo47 sizeOf47 zeroValue47 rfl rfl rfl (by with_reducible repeat constructor) (reads_pt (by with_reducible repeat constructor) rfl) rfl (by simp [one?]) (by rw [show Tryz.t47.bytes = 8 from rfl]; omega) fun v129 ho129 => ?_)
   refine tas rfl (tas rfl (trl_nil ?_))
   rw [ptrs_push, ptrs_push, ptrs_push, ptrs_push]
   refine Tr.fold (sls_push (A := PB) (l := m.ga) (m := bdsAt style l i) (a := g) (b := bdAt style i s (numF s)) (by rw [hm.la, bdsAt_length])) (by with_reducible repeat constructor) ?_
   refine Tr.fold (sls_push (A := PB) (l := m.gb) (m := emsAt l i) (a := bp2) (b := newBd (mostF s) (sideF s.w) (sideF s.h)) (by rw [hm.lb, emsAt_length])) (by with_reducible repeat constructor) ?_
   refine Tr.fold (sls_push (A := RB) (l := m.gc) (m := bdsAt style l i) (a := q) (b := bdAt style i s (numF s)) (by rw [hm.lc, bdsAt_length])) (by with_reducible repeat constructor) ?_
   refine Tr.fold (sls_push (A := RB) (l := m.gd) (m := emsAt l i) (a := bq2) (b := newBd (mostF s) (sideF s.w) (sideF s.h)) (by rw [hm.ld, emsAt_length])) (by with_reducible repeat constructor) ?_
   have e1 := bdsAt_succ style l i
   rw [hsd] at e1
   have e2 := emsAt_succ l i
   rw [hsd] at e2
   rw [show bdAt style i s (numF s) = bdF style i s from rfl, e1, e2]
   refine tr_keep (ks := [0,1,8,9,10,11,12]) (.cons rfl (.cons rfl (.cons rfl (.cons rfl (.cons rfl (.cons rfl (.cons rfl .nil))))))) fun base => ?_
   refine tr_inBlock (tr_region (tmv rfl (trl_pv (pv_addI rfl rfl (by omega) (by omega)) ?_)))
   refine tas rfl (trl_nil (tr_again ih0 (i + 1, ⟨v111, v118, v122, v129, m.ga ++ [g], m.gb ++ [bp2], m.gc ++ [q], m.gd ++ [bq2]⟩) (by first | omega | (dsimp only; omega)) (.cons rfl (.cons rfl (.cons rfl (.cons rfl (.cons rfl (.cons rfl (.cons rfl .nil))))))) (holds_pure ⟨by dsimp only; omega, ⟨ho111, ho118, ho122, ho129, by simp [hm.la], by simp [hm.lb], by simp [hm.lc], by simp [hm.ld]⟩⟩ (holds_of_picks (by with_reducible repeat constructor)))))
 ·refine tr_exit rfl (tr_seq ?_)
  obtain rfl : i = l.length := by omega
  refine tr_region (tmv rfl (tmv rfl (tmv rfl (tmv rfl (tas rfl (tas rfl (tas rfl (tas rfl (trl_nil (tr_keep (ks := [4,5,6,7]) (.cons rfl (.cons rfl (.cons rfl (.cons rfl .nil)))) fun base => ?_))))))))))
  refine tr_ret func9 rfl .nil (by kernel_rfl) (.tmp rfl (.tmp rfl (.tmp rfl (.tmp rfl .nil)))) m rfl hm (holds_of_picks (by with_reducible repeat constructor))
end Go.Proofs
