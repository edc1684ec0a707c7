/- Contracts of functions that the law reaches, in every memory (part Rk4). -/
import Derived.Test.YtbmfgngjcpmjeaaGreatRk3
set_option linter.unusedVariables false
set_option linter.unusedSimpArgs false
set_option maxRecDepth 10000
namespace Go.Proofs
open Go.Eng Tryz
theorem sls_turn {α β : Type} {A : α → β → SL} : ∀ {l : List α} {m m' : List β}, m'.length = m.length → (∀ (j : Nat) (a : α) (b b' : β), l[j]? = some a → m[j]? = some b → m'[j]? = some b' → Fold [A a b] (A a b')) → Fold [SLs A l m] (SLs A l m') := by
  intro l
  induction l with
  | nil => intro m m' hl h F w N hw; cases m' <;> cases m <;> first | exact hw | (simp at hl; done) | exact hw
  | cons x l ih =>
    intro m m' hl h F w N hw
    cases m with
    | nil =>
      cases m' with
      | nil => exact hw
      | cons => simp at hl
    | cons y m =>
      cases m' with
      | nil => simp at hl
      | cons y' m' =>
        have h1 : Holds (A x y :: SLs A l m :: N) F w := Holds.star.1 hw
        have h2 := h 0 x y y' rfl rfl rfl F w _ h1
        have h3 : Holds ([SLs A l m] ++ (A x y' :: N)) F w := Holds.perm h2 (List.Perm.swap _ _ _)
        have h4 := ih (m := m) (m' := m') (by simpa using hl) (fun j a b b' e1 e2 e3 => h (j + 1) a b b' (by simpa using e1) (by simpa using e2) (by simpa using e3)) F w _ h3
        exact Holds.star.2 (Holds.perm h4 (List.Perm.swap _ _ _))
theorem rbs_planted {G : List Gd} {bds : List Bd} {count : Nat} (hB : ∀ bd ∈ bds, BdOk bd) : Fold [SLs RB G (bds.map (plantF count))] (SLs RB G (planted count bds)) := by
  refine sls_turn (by rw [planted_length hB]; simp) fun j g b b' hg hb hb' => ?_
  simp only [List.getElem?_map, Option.map_eq_some_iff] at hb
  obtain ⟨bd, hbd, rfl⟩ := hb
  by_cases hne : bd.ss = []
  · obtain ⟨b0, h1, _, h3⟩ := plantN_get _ hb'
    rw [hbd] at h1
    injection h1 with h1; subst h1
    rcases h3 with rfl | rfl
    · exact rb_empty (hB _ (List.mem_of_getElem? hbd)) hne
    · exact fun F w N h => h
  · rw [planted_get hbd hne hb']
    exact fun F w N h => h
theorem r_encode {lv : Value} {G : List Gd} {bds : List Bd} {style : Int} {count layer : Nat} (hGl : bds.length = G.length) (hG : G.length ≤ 1000) (hL : LOk count layer bds) (hR : ∀ bd ∈ bds, RdOk bd) (hN : ∀ n ∈ counts bds, n ≤ 1000) (hN2 : (spotsL (counts bds) 0).length ≤ 100) (hc : 1 ≤ count) (hc2 : count ≤ 100) (hl : layer < 100) :
    Spec Tryz.prog 11 [lv, .int .i64 style, .int .i64 (count : Nat), .int .i64 (layer : Nat)] [Sl 47 1 G.length lv (G.map fun g => Value.pointer (some ⟨g.r, 0, none⟩)), SLs RB G bds]
    (fun x : Value × Value => ⟨.tuple #[x.1, x.2], one? x.1 = true ∧ one? x.2 = true, [Sl 47 1 G.length lv (G.map fun g => Value.pointer (some ⟨g.r, 0, none⟩)), SLs RB G (encF style count layer bds).bds, Sl 5 1 (pack (encF style count layer bds).bits).length x.1 (u8s (pack (encF style count layer bds).bits)), Sl 5 1 (encF style count layer bds).body.length x.2 (u8s (encF style count layer bds).body)]⟩) := by
 refine spec_of_tr func11 rfl ntmps11 (by kernel_rfl) ?_
 refine tr_seq (tr_region (tas rfl (tas rfl (trl_nil (tr_seq (tr_region (trl_eff (ef_call rfl rfl call32 (wr_new) (by with_reducible repeat constructor) fun w hx24 => ?_))))))))
 dsimp only [List.cons_append, List.nil_append]
 refine tas rfl (trl_nil (tr_seq (tr_region (tas rfl (trl_nil (tr_seq (tr_seq (tr_region (tas rfl (trl_nil (tr_block (tr_while (α := Nat) (0) (fun j => bds.length - j) (fun j => [(0, lv), (1, .int .i64 style), (2, .int .i64 (count : Nat)), (3, .int .i64 (layer : Nat)), (10, .pointer (some ⟨w, 0, none⟩)), (11, .bool (((spotsL (counts bds) 0).take (offL (counts bds) j)).any (moreAt count layer bds))), (12, .int .i64 (j : Nat))]) (fun j => [pure' (j ≤ bds.length), Sl 47 1 G.length lv (G.map fun g => Value.pointer (some ⟨g.r, 0, none⟩)), SLs RB G ((bds.take j).map (plantF count) ++ bds.drop j), WR w []]) (ks := [0,1,2,3,10,11,12]) (.cons rfl (.cons rfl (.cons rfl (.cons rfl (.cons rfl (.cons (keep_v rfl (by rw [show offL (counts bds) 0 = 0 from by cases counts bds <;> rfl]; rfl)) (.cons rfl .nil))))))) (by rw [show ((bds.take 0).map (plantF count) ++ bds.drop 0) = bds from rfl]; exact holds_pure (Nat.zero_le _) (holds_of_picks (by with_reducible repeat constructor))) ?_))))))))))))
 intro j base ih0
 refine Tr.pure fun hj => ?_
 refine tr_seq (tr_seq (tr_region (tmv rfl (tmv rfl (trl_val (rv_len_sl runUnderlying27 rfl (by with_reducible repeat constructor)) ?_)))))
 refine trl_pv (pv_lss rfl rfl) (trl_nil (tr_if rfl (fun h0 => ?_) (fun h0 => ?_)))
 ·obtain ⟨bd, hbd⟩ := get_some (l := bds) (i := j) (by omega)
  obtain ⟨g, hg⟩ := get_some (l := G) (i := j) (by omega)
  have hBd := hL.ok bd (List.mem_of_getElem? hbd)
  have hRd := hR bd (List.mem_of_getElem? hbd)
  have hcn : (counts bds)[j]? = some bd.ss.length := by simp [counts, hbd]
  have hns := hN _ (List.mem_of_getElem? hcn)
  have hos := off_succ hcn
  have hmix : ((bds.take j).map (plantF count) ++ bds.drop j)[j]? = some bd := by rw [List.getElem?_append_right (by simp; omega)]; simp; rw [show min j bds.length = j by omega, Nat.sub_self, Nat.add_zero]; exact hbd
  have hgm : ((G.map fun g => Value.pointer (some ⟨g.r, 0, none⟩)))[j]? = some (.pointer (some ⟨g.r, 0, none⟩)) := by simp [hg]
  refine Tr.unfold (sls_open hg hmix) (by with_reducible repeat constructor) fun _ _ => ?_
  dsimp only [List.cons_append, List.nil_append]
  refine tr_skip (tr_seq (tr_block (tr_seq (tr_region (tmv rfl (tmv rfl (trl_val (rv_indexAddr_sl runUnderlying27 sizeOf47 rfl rfl (by with_reducible repeat constructor) (by omega) (by omega)) ?_)))))))
  refine trl_val (rv_load_sl isAgg47 rfl (by with_reducible repeat constructor) (idx1 hgm)) ?_
  refine tmv rfl (trl_eff (ef_call rfl rfl call33 (r_set (g := g) (bd := bd) (count := count) hBd hRd hc hc2 (by omega)) (by with_reducible repeat constructor) fun x36 hx36 => ?_))
  dsimp only [List.cons_append, List.nil_append]
  refine trl_nil ?_
  refine Tr.unfold (rb_open (g := g) (bd := (plantF count bd))) (by with_reducible repeat constructor) fun st ⟨hgl, hst⟩ => ?_
  dsimp only [List.cons_append, List.nil_append]
  rw [plantF_ss, plantF_sh, plantF_planes]
  rw [plantF_ss] at hgl hst
  refine tr_keep (ks := [0,1,2,3,10,11,12]) (.cons rfl (.cons rfl (.cons rfl (.cons rfl (.cons rfl (.cons rfl (.cons rfl .nil))))))) fun base => ?_
  refine tr_seq (tr_region (tas rfl (trl_nil (tr_block (tr_while (α := Nat) (0) (fun k => bd.ss.length - k) (fun k => [(0, lv), (1, .int .i64 style), (2, .int .i64 (count : Nat)), (3, .int .i64 (layer : Nat)), (10, .pointer (some ⟨w, 0, none⟩)), (11, .bool (((spotsL (counts bds) 0).take (offL (counts bds) j + k)).any (moreAt count layer bds))), (12, .int .i64 (j : Nat)), (13, .int .i64 (k : Nat))]) (fun k => [pure' (k ≤ bd.ss.length), Sl 47 1 G.length lv (G.map fun g => Value.pointer (some ⟨g.r, 0, none⟩)), WR w [], pt g.r 83 [.int .i64 bd.planes, g.v, .pointer (some ⟨g.rF, 0, none⟩), .pointer (some ⟨g.rZ, 0, none⟩), .bool st], Sl 85 5 bd.ss.length g.v (scells (us bd.ss) g.gs), SLs (BP 90 5) g.gs bd.ss, RG g.rF bd.sh (plantF count bd).first, RG g.rZ bd.sh (plantF count bd).zeros, SLs RB (G.eraseIdx j) (((bds.take j).map (plantF count) ++ bds.drop j).eraseIdx j)]) (ks := [0,1,2,3,10,11,12,13]) (.cons rfl (.cons rfl (.cons rfl (.cons rfl (.cons rfl (.cons rfl (.cons rfl (.cons rfl .nil)))))))) (holds_pure (Nat.zero_le _) (holds_of_picks (by with_reducible repeat constructor))) ?_)))))
  intro k base ih1
  refine Tr.pure fun hk => ?_
  refine tr_seq (tr_seq (tr_region (tmv rfl (tmv rfl (tmv rfl (trl_val (rv_indexAddr_sl runUnderlying27 sizeOf47 rfl rfl (by with_reducible repeat constructor) (by omega) (by omega)) ?_))))))
  refine trl_val (rv_load_sl isAgg47 rfl (by with_reducible repeat constructor) (idx1 hgm)) ?_
  refine tnc rfl (trl_pv (pv_fieldAddr runUnderlying83 rfl sizeOf80 rfl rfl) (trl_val (rv_load isAgg80 rfl (by with_reducible repeat constructor) rfl) ?_))
  refine trl_val (rv_len_sl runUnderlying80 rfl (by with_reducible repeat constructor)) ?_
  refine trl_pv (pv_lss rfl rfl) (trl_nil (tr_keep (ks := [0,1,2,3,10,11,12,13,46]) (.cons rfl (.cons rfl (.cons rfl (.cons rfl (.cons rfl (.cons rfl (.cons rfl (.cons rfl (.cons rfl .nil))))))))) fun base => ?_))
  refine tr_if rfl (fun h1 => ?_) (fun h1 => ?_)
  ·obtain ⟨s, hs⟩ := get_some (l := bd.ss) (i := k) (by omega)
   obtain ⟨gg, hgg⟩ := get_some (l := g.gs) (i := k) (by omega)
   have hus := us_get hs
   have hso := hBd.ss s (List.mem_of_getElem? hs)
   have hspt := spots_get (j0 := 0) hcn (show k < bd.ss.length by omega)
   rw [Nat.zero_add] at hspt
   have hsd := hL.said bd (List.mem_of_getElem? hbd) s (List.mem_of_getElem? hs)
   have hmo : moreAt count layer bds (j, k) = decide (((passesF s.b.ps.length count layer : Nat) : Int) < ((passesF s.b.ps.length count (layer + 1) : Nat) : Int)) := by unfold moreAt; dsimp only; rw [hbd]; dsimp only; rw [hs]; dsimp only; rw [hsd, Bool.eq_iff_iff]; simp
   have hany := any_take (f := moreAt count layer bds) hspt
   rw [Nat.add_assoc] at hany
   refine Tr.unfold (sls_open hgg hs) (by with_reducible repeat constructor) fun _ _ => ?_
   dsimp only [List.cons_append, List.nil_append]
   refine Tr.unfold bp_open (by exact .here) fun _ _ => ?_
   dsimp only [List.cons_append, List.nil_append]
   refine tr_skip (tr_seq (tr_block (tr_seq (tr_region (tmv rfl (tmv rfl (trl_val (rv_indexAddr_sl runUnderlying27 sizeOf47 rfl rfl (by with_reducible repeat constructor) (by omega) (by omega)) ?_)))))))
   refine trl_val (rv_load_sl isAgg47 rfl (by with_reducible repeat constructor) (idx1 hgm)) ?_
   refine tnc rfl (trl_pv (pv_fieldAddr runUnderlying83 rfl sizeOf80 rfl rfl) (trl_val (rv_load isAgg80 rfl (by with_reducible repeat constructor) rfl) ?_))
   refine tmv rfl (trl_val (rv_indexAddr_sl runUnderlying80 sizeOf85 rfl rfl (by with_reducible repeat constructor) (by omega) (by omega)) ?_)
   refine trl_val (rv_load_agg_sl (us := [.int .i64 s.b.pl, gg.1, gg.2, .int .i64 0, .int .i64 (s.lb : Nat)]) isAgg85 sizeOf85 rfl (by with_reducible repeat constructor) rfl (sc_part hus hgg) (by omega)) ?_
   refine tmv rfl (tmv rfl (trl_eff (ef_call rfl rfl call34 (r_news (n := s.b.ps.length) (count := count) (layer := layer) hso.b.len hc hc2 (by omega)) (by with_reducible repeat constructor) fun x62 hx62 => ?_)))
   dsimp only [List.cons_append, List.nil_append]
   refine tmv rfl (trl_pv (pv_extract rfl rfl) (trl_pv (pv_extract rfl rfl) (tas rfl (tas rfl (trl_nil (tr_keep (ks := [0,1,2,3,10,11,12,13,14,15]) (.cons rfl (.cons rfl (.cons rfl (.cons rfl (.cons rfl (.cons rfl (.cons rfl (.cons rfl (.cons rfl (.cons rfl .nil)))))))))) fun base => ?_))))))
   refine tr_region (tmv rfl (tmv rfl (trl_splitb 1 rfl (fun g66 => ?_) (fun g66 => ?_))))
   ·refine trl_not rfl g66 ?_
    refine trl_not rfl g66 ?_
    refine trl_not rfl g66 ?_
    refine trl_pv (pv_pick_t rfl g66 rfl) (tas rfl (trl_nil (tr_keep (ks := [0,1,2,3,10,11,12,13]) (.cons rfl (.cons rfl (.cons rfl (.cons rfl (.cons rfl (.cons rfl (.cons rfl (.cons rfl .nil)))))))) fun base => ?_)))
    refine tr_inBlock (tr_region (tmv rfl (trl_pv (pv_addI rfl rfl (by omega) (by omega)) ?_)))
    refine tas rfl (trl_nil ?_)
    refine Tr.fold (bp_fold (tp := 90) (tb := 5) (g := gg) (s := s)) (by with_reducible repeat constructor) ?_
    refine Tr.fold (sls_fold (A := BP 90 5) hgg hs) (by with_reducible repeat constructor) ?_
    refine tr_again ih1 (k + 1) (by first | omega | (dsimp only; omega)) (.cons rfl (.cons rfl (.cons rfl (.cons rfl (.cons rfl (.cons (keep_v rfl (by rw [hany, g66]; rfl)) (.cons rfl (.cons (keep_int rfl (by omega)) .nil)))))))) (holds_pure (by omega) (holds_of_picks (by with_reducible repeat constructor)))
   ·refine trl_pvg rfl g66 (pv_move rfl) ?_
    refine trl_pvg rfl g66 (pv_move rfl) ?_
    refine trl_pvg rfl g66 (pv_gtr rfl rfl) ?_
    refine trl_pv (pv_pick_f rfl g66 rfl) (tas rfl (trl_nil (tr_keep (ks := [0,1,2,3,10,11,12,13]) (.cons rfl (.cons rfl (.cons rfl (.cons rfl (.cons rfl (.cons rfl (.cons rfl (.cons rfl .nil)))))))) fun base => ?_)))
    refine tr_inBlock (tr_region (tmv rfl (trl_pv (pv_addI rfl rfl (by omega) (by omega)) ?_)))
    refine tas rfl (trl_nil ?_)
    refine Tr.fold (bp_fold (tp := 90) (tb := 5) (g := gg) (s := s)) (by with_reducible repeat constructor) ?_
    refine Tr.fold (sls_fold (A := BP 90 5) hgg hs) (by with_reducible repeat constructor) ?_
    refine tr_again ih1 (k + 1) (by first | omega | (dsimp only; omega)) (.cons rfl (.cons rfl (.cons rfl (.cons rfl (.cons rfl (.cons (keep_v rfl (by rw [hany, g66, hmo]; rfl)) (.cons rfl (.cons (keep_int rfl (by omega)) .nil)))))))) (holds_pure (by omega) (holds_of_picks (by with_reducible repeat constructor)))
  ·refine tr_exit rfl (tr_inBlock (tr_region (tmv rfl (trl_pv (pv_addI rfl rfl (by omega) (by omega)) ?_))))
   refine tas rfl (trl_nil ?_)
   obtain rfl : k = bd.ss.length := by omega
   refine Tr.fold (rb_fold (g := g) (bd := (plantF count bd)) (r := g.r) (v := g.v) (p := bd.planes) (rF := g.rF) (rZ := g.rZ) (st := st) (n := bd.ss.length) (cs := scells (us bd.ss) g.gs) (ss' := bd.ss) (T1 := (plantF count bd).first) (T2 := (plantF count bd).zeros) (sh := bd.sh) (by rw [plantF_ss]; exact hgl) rfl rfl (plantF_planes _ _) rfl rfl (by rw [plantF_ss]; exact hst) (by rw [plantF_ss]) (by rw [plantF_ss]) (by rw [plantF_ss]) rfl rfl (plantF_sh _ _)) (by with_reducible repeat constructor) ?_
   refine Tr.fold (sls_put (A := RB) hg (show j < ((bds.take j).map (plantF count) ++ bds.drop j).length by simp; omega)) (by with_reducible repeat constructor) ?_
   rw [mix_put count hbd, ← hos]
   refine tr_again ih0 (j + 1) (by first | omega | (dsimp only; omega)) (.cons rfl (.cons rfl (.cons rfl (.cons rfl (.cons rfl (.cons rfl (.cons (keep_int rfl (by omega)) .nil))))))) (holds_pure (by omega) (holds_of_picks (by with_reducible repeat constructor)))
 ·refine tr_exit rfl (tr_seq (tr_seq ?_))
  obtain rfl : j = bds.length := by omega
  rw [show offL (counts bds) bds.length = (spotsL (counts bds) 0).length from by rw [spots_length]; simp [counts], List.take_length, List.take_length, List.drop_length, List.append_nil, show (spotsL (counts bds) 0).any (moreAt count layer bds) = anyMore count layer bds from rfl]
  refine Tr.fold (rbs_planted (count := count) hL.ok) (by with_reducible repeat constructor) ?_
  refine tr_region (tmv rfl (trl_pv (pv_not rfl) (trl_nil (tr_keep (ks := [0,1,2,3,10,72]) (.cons rfl (.cons rfl (.cons rfl (.cons rfl (.cons rfl (.cons rfl .nil)))))) fun base => ?_))))
  refine tr_ifb rfl (fun h2 => ?_) (fun h2 => ?_)
  ·have hm : anyMore count layer bds = false := by simpa using h2
   have he : encF style count layer bds = ⟨[false], [], planted count bds⟩ := by unfold encF; rw [hm]; rfl
   rw [he]
   dsimp only
   refine tr_seq (tr_region (tmv rfl (trl_eff (ef_call rfl rfl call35 (wr_bit (bs := []) (by simp)) (by with_reducible repeat constructor) fun x74 hx74 => ?_))))
   dsimp only [List.cons_append, List.nil_append]
   refine trl_nil ?_
   rw [show decide ((0 : Int) % 2 = 1) = false from rfl]
   refine tr_keep (ks := [10]) (.cons rfl .nil) fun base => ?_
   refine tr_seq (tr_region (tmv rfl (trl_eff (ef_call rfl rfl call36 (wr_bytes (bs := [false]) (by simp)) (by with_reducible repeat constructor) fun v76 ho76 => ?_))))
   dsimp only [List.cons_append, List.nil_append]
   refine tas rfl (tas rfl (trl_nil ?_))
   refine tr_empty 5 1 none ?_
   refine tr_ret func11 rfl .nil (by kernel_rfl) (.tmp rfl (.tmp rfl .nil)) (v76, .slice none 0 0) rfl ⟨ho76, rfl⟩ (by simp only [List.length_nil, u8s_nil]; exact holds_of_picks (by with_reducible repeat constructor))
  ·have hm : anyMore count layer bds = true := by simpa using h2
   have he : encF style count layer bds = encAll style count layer bds := by unfold encF; rw [if_pos hm]
   rw [he]
   refine tr_skip (tr_seq (tr_region (tmv rfl (trl_eff (ef_call rfl rfl call35 (wr_bit (bs := []) (by simp)) (by with_reducible repeat constructor) fun x78 hx78 => ?_)))))
   dsimp only [List.cons_append, List.nil_append]
   refine trl_nil ?_
   rw [show decide ((1 : Int) % 2 = 1) = true from rfl]
   refine tr_seq (tr_region (tas rfl (trl_nil ?_)))
   refine tr_empty 5 1 none ?_
   refine tr_seq (tr_seq (tr_region (tas rfl (trl_nil (tr_block (tr_while (α := Nat × Value) ((0, .slice none 0 0)) (fun x => bds.length - x.1) (fun x => [(0, lv), (1, .int .i64 style), (2, .int .i64 (count : Nat)), (3, .int .i64 (layer : Nat)), (10, .pointer (some ⟨w, 0, none⟩)), (16, x.2), (17, .int .i64 (x.1 : Nat))]) (fun x => [pure' (x.1 ≤ bds.length ∧ one? x.2 = true), Sl 47 1 G.length lv (G.map fun g => Value.pointer (some ⟨g.r, 0, none⟩)), SLs RB G (eAt style count layer bds (offL (counts bds) x.1)).bds, WR w (eAt style count layer bds (offL (counts bds) x.1)).bits, Sl 5 1 (eAt style count layer bds (offL (counts bds) x.1)).body.length x.2 (u8s (eAt style count layer bds (offL (counts bds) x.1)).body)]) (ks := [0,1,2,3,10,16,17]) (.cons rfl (.cons rfl (.cons rfl (.cons rfl (.cons rfl (.cons rfl (.cons rfl .nil))))))) (by dsimp only; rw [show offL (counts bds) 0 = 0 from by cases counts bds <;> rfl, show (eAt style count layer bds (0)) = ⟨[true], [], planted count bds⟩ from rfl]; dsimp only [List.length_nil]; rw [u8s_nil]; exact holds_pure ⟨Nat.zero_le _, rfl⟩ (holds_of_picks (by with_reducible repeat constructor))) ?_))))))
   intro ⟨j, xb⟩ base ih2
   refine Tr.pure fun ⟨hj, hxb⟩ => ?_
   dsimp only at hj hxb ⊢
   refine tr_seq (tr_seq (tr_region (tmv rfl (tmv rfl (trl_val (rv_len_sl runUnderlying27 rfl (by with_reducible repeat constructor)) ?_)))))
   refine trl_pv (pv_lss rfl rfl) (trl_nil (tr_if rfl (fun h3 => ?_) (fun h3 => ?_)))
   ·obtain ⟨bd0, hbd0⟩ := get_some (l := bds) (i := j) (by omega)
    obtain ⟨g, hg⟩ := get_some (l := G) (i := j) (by omega)
    have hcn : (counts bds)[j]? = some bd0.ss.length := by simp [counts, hbd0]
    have hns := hN _ (List.mem_of_getElem? hcn)
    have hos := off_succ hcn
    have hgm : ((G.map fun g => Value.pointer (some ⟨g.r, 0, none⟩)))[j]? = some (.pointer (some ⟨g.r, 0, none⟩)) := by simp [hg]
    have hol := off_le (counts bds) (j + 1)
    rw [← spots_length (counts bds) 0] at hol
    generalize hnn : bd0.ss.length = nn at hcn hns hos
    refine tr_skip (tr_seq (tr_block (tr_seq (tr_region (tmv rfl (tmv rfl (trl_val (rv_indexAddr_sl runUnderlying27 sizeOf47 rfl rfl (by with_reducible repeat constructor) (by omega) (by omega)) ?_)))))))
    refine trl_val (rv_load_sl isAgg47 rfl (by with_reducible repeat constructor) (idx1 hgm)) ?_
    refine tas rfl (trl_nil (tr_keep (ks := [0,1,2,3,10,16,17,18]) (.cons rfl (.cons rfl (.cons rfl (.cons rfl (.cons rfl (.cons rfl (.cons rfl (.cons rfl .nil)))))))) fun base => ?_))
    refine tr_seq (tr_region (tas rfl (trl_nil (tr_block (tr_while (α := Nat × Value) ((0, xb)) (fun x => nn - x.1) (fun x => [(0, lv), (1, .int .i64 style), (2, .int .i64 (count : Nat)), (3, .int .i64 (layer : Nat)), (10, .pointer (some ⟨w, 0, none⟩)), (16, x.2), (17, .int .i64 (j : Nat)), (18, .pointer (some ⟨g.r, 0, none⟩)), (19, .int .i64 (x.1 : Nat))]) (fun x => [pure' (x.1 ≤ nn ∧ one? x.2 = true), Sl 47 1 G.length lv (G.map fun g => Value.pointer (some ⟨g.r, 0, none⟩)), SLs RB G (eAt style count layer bds (offL (counts bds) j + x.1)).bds, WR w (eAt style count layer bds (offL (counts bds) j + x.1)).bits, Sl 5 1 (eAt style count layer bds (offL (counts bds) j + x.1)).body.length x.2 (u8s (eAt style count layer bds (offL (counts bds) j + x.1)).body)]) (ks := [0,1,2,3,10,16,17,18,19]) (.cons rfl (.cons rfl (.cons rfl (.cons rfl (.cons rfl (.cons rfl (.cons rfl (.cons rfl (.cons rfl .nil))))))))) (by dsimp only [Nat.add_zero]; exact holds_pure ⟨Nat.zero_le _, hxb⟩ (holds_of_picks (by with_reducible repeat constructor))) ?_)))))
    intro ⟨k, xb⟩ base ih3
    refine Tr.pure fun ⟨hk, hxb⟩ => ?_
    dsimp only at hk hxb ⊢
    have hEi := eAt_ok (style := style) (show layer ≤ 100 by omega) hL (offL (counts bds) j + k)
    have hEr := eAt_rd (style := style) (show layer ≤ 100 by omega) hL hR (offL (counts bds) j + k)
    have hEh := eAt_half (style := style) hc (show layer ≤ 100 by omega) hL j k (.inr ⟨nn, hcn, hk⟩)
    have hEn := fun h : k < nn => eAt_next (style := style) (count := count) (layer := layer) (bds := bds) hcn h
    have hti : (0 + ((spotsL (counts bds) 0).take (offL (counts bds) j + k)).length) ≤ 100 := by simp; omega
    obtain ⟨e, hE⟩ : ∃ e, e = (eAt style count layer bds (offL (counts bds) j + k)) := ⟨_, rfl⟩
    rw [← hE] at hEi hEr hEh hEn ⊢
    have hbits := hEi.bits
    have hbody := hEi.body
    obtain ⟨bd, hbd⟩ := get_some (l := e.bds) (i := j) (by rw [hEi.bds.1]; simp [counts]; omega)
    obtain ⟨hBd, hbn⟩ := hEi.bds.2 j bd hbd
    rw [hcn] at hbn
    injection hbn with hbn
    have hlt := (List.getElem?_eq_some_iff.1 hbd).1
    have hRd := hEr bd (List.mem_of_getElem? hbd)
    refine Tr.unfold (sls_open hg hbd) (by with_reducible repeat constructor) fun _ _ => ?_
    dsimp only [List.cons_append, List.nil_append]
    refine Tr.unfold (rb_open (g := g) (bd := bd)) (by with_reducible repeat constructor) fun st ⟨hgl, hst⟩ => ?_
    dsimp only [List.cons_append, List.nil_append]
    refine tr_seq (tr_seq (tr_region (tmv rfl (tmv rfl (tnc rfl (trl_pv (pv_fieldAddr runUnderlying83 rfl sizeOf80 rfl rfl) (trl_val (rv_load isAgg80 rfl (by with_reducible repeat constructor) rfl) ?_)))))))
    refine trl_val (rv_len_sl runUnderlying80 rfl (by with_reducible repeat constructor)) ?_
    refine trl_pv (pv_lss rfl rfl) (trl_nil (tr_if rfl (fun h4 => ?_) (fun h4 => ?_)))
    ·have hkn : k < nn := by omega
     replace hEn := hEn hkn
     obtain ⟨s, hs⟩ := get_some (l := bd.ss) (i := k) (by omega)
     obtain ⟨gg, hgg⟩ := get_some (l := g.gs) (i := k) (by omega)
     have hus := us_get hs
     have hso := hBd.ss s (List.mem_of_getElem? hs)
     have hsd := half_at hEh hbd hs
     have hto := toOf_said hc hsd
     have ht := toOf_le (count := count) (layer := layer) hso
     have hset := hEi.set _ _ hbd (by rintro e; rw [e] at hs; simp at hs)
     have hhd := headF_le (style := style) (layer := layer) (to := (toOf count layer s)) (k := k) hBd hso (by omega) (by have := hso.b.len; omega)
     have hh1 := head1_le (to := (toOf count layer s)) (k := k) (s := s) hBd (show layer ≤ 100 by omega)
     have hkk := (List.getElem?_eq_some_iff.1 hs).1
     obtain ⟨sh0, hsh0, hshl⟩ := leaf0 hBd.leaves (show 0 < bd.ss.length by omega)
     obtain ⟨hwo, -⟩ := hRd.first.enc hsh0 (show k < sh0.1 * sh0.2 by omega) ((layer + 1 : Nat) : Int)
     rw [encStep_eq hbd hs] at hEn
     have hsl := hso.b.len
     have hsz := hso.b.size
     refine Tr.unfold (sls_open hgg hs) (by with_reducible repeat constructor) fun _ _ => ?_
     dsimp only [List.cons_append, List.nil_append]
     refine Tr.unfold bp_open (by exact .here) fun _ _ => ?_
     dsimp only [List.cons_append, List.nil_append]
     refine tr_skip (tr_seq (tr_block (tr_seq (tr_region (tmv rfl (tnc rfl (trl_pv (pv_fieldAddr runUnderlying83 rfl sizeOf80 rfl rfl) (trl_val (rv_load isAgg80 rfl (by with_reducible repeat constructor) rfl) ?_))))))))
     refine tmv rfl (trl_val (rv_indexAddr_sl runUnderlying80 sizeOf85 rfl rfl (by with_reducible repeat constructor) (by omega) (by omega)) ?_)
     refine trl_val (rv_load_agg_sl (us := [.int .i64 s.b.pl, gg.1, gg.2, .int .i64 0, .int .i64 (s.lb : Nat)]) isAgg85 sizeOf85 rfl (by with_reducible repeat constructor) rfl (sc_part hus hgg) (by omega)) ?_
     refine tmv rfl (tmv rfl (trl_eff (ef_call rfl rfl call34 (r_news (n := s.b.ps.length) (count := count) (layer := layer) hso.b.len hc hc2 (by omega)) (by with_reducible repeat constructor) fun x108 hx108 => ?_)))
     dsimp only [List.cons_append, List.nil_append]
     refine tmv rfl (trl_pv (pv_extract rfl rfl) (trl_pv (pv_extract rfl rfl) (tas rfl (tas rfl (trl_nil ?_)))))
     rw [← hsd, ← hto]
     refine Tr.fold (bp_fold (tp := 90) (tb := 5) (g := gg) (s := s)) (by with_reducible repeat constructor) ?_
     refine Tr.fold (sls_fold (A := BP 90 5) hgg hs) (by with_reducible repeat constructor) ?_
     refine tr_keep (ks := [0,1,2,3,10,16,17,18,19,20,21]) (.cons rfl (.cons rfl (.cons rfl (.cons rfl (.cons rfl (.cons rfl (.cons rfl (.cons rfl (.cons rfl (.cons rfl (.cons rfl .nil))))))))))) fun base => ?_
     refine tr_seq (tr_seq (tr_region (tmv rfl (trl_pv (pv_eql rfl rfl) (trl_nil ?_)))))
     refine tr_join (α := Unit) (fun _ => [(0, lv), (1, .int .i64 style), (2, .int .i64 (count : Nat)), (3, .int .i64 (layer : Nat)), (10, .pointer (some ⟨w, 0, none⟩)), (16, xb), (17, .int .i64 (j : Nat)), (18, .pointer (some ⟨g.r, 0, none⟩)), (19, .int .i64 (k : Nat)), (20, .int .i64 (s.said : Nat)), (21, .int .i64 ((toOf count layer s) : Nat))]) (fun _ => [Sl 47 1 G.length lv (G.map fun g => Value.pointer (some ⟨g.r, 0, none⟩)), WR w (e.bits ++ (head1 layer (toOf count layer s) bd k s).1), Sl 5 1 e.body.length xb (u8s e.body), pt g.r 83 [.int .i64 bd.planes, g.v, .pointer (some ⟨g.rF, 0, none⟩), .pointer (some ⟨g.rZ, 0, none⟩), .bool st], Sl 85 5 bd.ss.length g.v (scells (us bd.ss) g.gs), SLs (BP 90 5) g.gs bd.ss, RG g.rF bd.sh (head1 layer (toOf count layer s) bd k s).2, RG g.rZ bd.sh bd.zeros, SLs RB (G.eraseIdx j) (e.bds.eraseIdx j)]) (fun K5 hK5 => ?_) ?_
     ·refine tr_if rfl (fun h5 => ?_) (fun h5 => ?_)
      ·have he1 : (head1 layer (toOf count layer s) bd k s) = encT bd.sh bd.first k ((layer + 1 : Nat) : Int) := if_pos (by omega)
       refine tr_region (tmv rfl (tnc rfl (trl_pv (pv_fieldAddr runUnderlying83 rfl sizeOf81 rfl rfl) (trl_val (rv_load isAgg81 rfl (by with_reducible repeat constructor) rfl) ?_))))
       refine tmv rfl (tmv rfl (tmv rfl (trl_pv (pv_conv (pv_addI rfl rfl (by omega) (by omega)) (congrArg (Value.int .i64) (show (layer : Int) + 1 = ((layer + 1 : Nat) : Int) from by omega))) ?_)))
       refine trl_eff (ef_call rfl rfl call37 (rg_encode (sh := bd.sh) (T := bd.first) (bs := e.bits) (k := k) (bound := ((layer + 1 : Nat) : Int)) hBd.fine hBd.ends hsh0 (by omega) hwo (by rw [← he1]; omega) (by omega)) (by with_reducible repeat constructor) fun x121 hx121 => ?_)
       dsimp only [List.cons_append, List.nil_append]
       refine trl_nil (tr_keep (ks := [0,1,2,3,10,16,17,18,19,20,21]) (.cons rfl (.cons rfl (.cons rfl (.cons rfl (.cons rfl (.cons rfl (.cons rfl (.cons rfl (.cons rfl (.cons rfl (.cons rfl .nil))))))))))) fun base => ?_)
       rw [← he1]
       refine tr_meet hK5 () (.cons rfl (.cons rfl (.cons rfl (.cons rfl (.cons rfl (.cons rfl (.cons rfl (.cons rfl (.cons rfl (.cons rfl (.cons rfl .nil))))))))))) (holds_of_picks (by with_reducible repeat constructor))
      ·have he1 : (head1 layer (toOf count layer s) bd k s) = ([decide (s.said < (toOf count layer s))], bd.first) := if_neg (by omega)
       refine tr_seq (tr_region (tmv rfl (tmv rfl (trl_pv (pv_gtr rfl rfl) (trl_nil (tr_if rfl (fun h6 => ?_) (fun h6 => ?_)))))))
       ·refine tr_region (tmv rfl (trl_eff (ef_call rfl rfl call35 (wr_bit (bs := e.bits) (by omega)) (by with_reducible repeat constructor) fun x126 hx126 => ?_)))
        dsimp only [List.cons_append, List.nil_append]
        refine trl_nil (tr_keep (ks := [0,1,2,3,10,16,17,18,19,20,21]) (.cons rfl (.cons rfl (.cons rfl (.cons rfl (.cons rfl (.cons rfl (.cons rfl (.cons rfl (.cons rfl (.cons rfl (.cons rfl .nil))))))))))) fun base => ?_)
        rw [show [decide ((1 : Int) % 2 = 1)] = (head1 layer (toOf count layer s) bd k s).1 from by rw [he1]; simp; omega, show RG g.rF bd.sh bd.first = RG g.rF bd.sh (head1 layer (toOf count layer s) bd k s).2 from by rw [he1]]
        refine tr_meet hK5 () (.cons rfl (.cons rfl (.cons rfl (.cons rfl (.cons rfl (.cons rfl (.cons rfl (.cons rfl (.cons rfl (.cons rfl (.cons rfl .nil))))))))))) (holds_of_picks (by with_reducible repeat constructor))
       ·refine tr_region (tmv rfl (trl_eff (ef_call rfl rfl call35 (wr_bit (bs := e.bits) (by omega)) (by with_reducible repeat constructor) fun x128 hx128 => ?_)))
        dsimp only [List.cons_append, List.nil_append]
        refine trl_nil (tr_keep (ks := [0,1,2,3,10,16,17,18,19,20,21]) (.cons rfl (.cons rfl (.cons rfl (.cons rfl (.cons rfl (.cons rfl (.cons rfl (.cons rfl (.cons rfl (.cons rfl (.cons rfl .nil))))))))))) fun base => ?_)
        rw [show [decide ((0 : Int) % 2 = 1)] = (head1 layer (toOf count layer s) bd k s).1 from by rw [he1]; simp; omega, show RG g.rF bd.sh bd.first = RG g.rF bd.sh (head1 layer (toOf count layer s) bd k s).2 from by rw [he1]]
        refine tr_meet hK5 () (.cons rfl (.cons rfl (.cons rfl (.cons rfl (.cons rfl (.cons rfl (.cons rfl (.cons rfl (.cons rfl (.cons rfl (.cons rfl .nil))))))))))) (holds_of_picks (by with_reducible repeat constructor))
     ·intro y base
      refine tr_seq (tr_seq (tr_region (tmv rfl (tmv rfl (trl_pv (pv_eql rfl rfl) (trl_nil (tr_if rfl (fun h7 => ?_) (fun h7 => ?_))))))))
      ·have hte : (toOf count layer s) = s.said := by omega
       have hd : (headF style layer (toOf count layer s) bd k s) = ⟨(head1 layer (toOf count layer s) bd k s).1, (head1 layer (toOf count layer s) bd k s).2, bd.zeros, s.lb⟩ := if_pos hte
       have hst2 : (stepF style count layer bd k s) = { bd with first := (head1 layer (toOf count layer s) bd k s).2 } := by unfold stepF; rw [hd]; dsimp only; rw [hte, show bd.ss.set k { b := s.b, said := s.said, lb := s.lb } = bd.ss from by obtain ⟨hk3, rfl⟩ := List.getElem?_eq_some_iff.1 hs; exact List.set_getElem_self hk3]
       refine tr_exit rfl (tr_region (tmv rfl (trl_pv (pv_addI rfl rfl (by omega) (by omega)) ?_)))
       refine tas rfl (trl_nil (tr_keep (ks := [0,1,2,3,10,16,17,18,19]) (.cons rfl (.cons rfl (.cons rfl (.cons rfl (.cons rfl (.cons rfl (.cons rfl (.cons rfl (.cons rfl .nil))))))))) fun base => ?_))
       refine Tr.fold (rb_fold (g := g) (bd := { bd with first := (head1 layer (toOf count layer s) bd k s).2 }) (r := g.r) (v := g.v) (p := bd.planes) (rF := g.rF) (rZ := g.rZ) (st := st) (n := bd.ss.length) (cs := scells (us bd.ss) g.gs) (ss' := bd.ss) (T1 := (head1 layer (toOf count layer s) bd k s).2) (T2 := bd.zeros) (sh := bd.sh) hgl rfl rfl rfl rfl rfl hst rfl rfl rfl rfl rfl rfl) (by with_reducible repeat constructor) ?_
       refine Tr.fold (sls_put (A := RB) hg hlt) (by with_reducible repeat constructor) ?_
       refine tr_again ih3 (k + 1, xb) (by first | omega | (dsimp only; omega)) (.cons rfl (.cons rfl (.cons rfl (.cons rfl (.cons rfl (.cons rfl (.cons rfl (.cons rfl (.cons (keep_int rfl (by first | omega | (dsimp only; omega))) .nil))))))))) (by dsimp only; rw [hEn, hst2, hd, if_neg (show ¬ s.said < (toOf count layer s) by omega), List.append_nil]; exact holds_pure ⟨by omega, hxb⟩ (holds_of_picks (by with_reducible repeat constructor)))
      ·have hlt2 : s.said < (toOf count layer s) := by omega
       have hd : (headF style layer (toOf count layer s) bd k s) = ⟨(head1 layer (toOf count layer s) bd k s).1 ++ (head2 bd k s).1 ++ tellBits ((((toOf count layer s) - s.said : Nat) : Int)) ++ List.replicate (needF s.lb (segOf style (toOf count layer s) s) - s.lb) true ++ [false] ++ sizeBits (needF s.lb (segOf style (toOf count layer s) s)) (segOf style (toOf count layer s) s), (head1 layer (toOf count layer s) bd k s).2, (head2 bd k s).2, needF s.lb (segOf style (toOf count layer s) s)⟩ := if_neg (by omega)
       rw [hd] at hhd
       simp only [List.length_append, List.length_replicate, List.length_singleton] at hhd
       refine tr_skip (tr_seq (tr_region (tmv rfl (tmv rfl (tmv rfl (tmv rfl (tmv rfl (tmv rfl (trl_eff (ef_call rfl rfl call38 (r_say (g := g) (bd := bd) (s := s) (k := k) (to := (toOf count layer s)) (w := w) (st := st) (style := style) (bs := e.bits ++ (head1 layer (toOf count layer s) bd k s).1) hBd hRd hgl hs hlt2 ht.2 (by simp only [List.length_append]; omega)) (by with_reducible repeat constructor) fun x138 hx138 => ?_))))))))))
       dsimp only [List.cons_append, List.nil_append]
       refine trl_nil (tr_keep (ks := [0,1,2,3,10,16,17,18,19,20,21]) (.cons rfl (.cons rfl (.cons rfl (.cons rfl (.cons rfl (.cons rfl (.cons rfl (.cons rfl (.cons rfl (.cons rfl (.cons rfl .nil))))))))))) fun base => ?_)
       refine tr_seq ?_
       have hs3 : (bd.ss.set k { s with lb := (needF s.lb (segOf style (toOf count layer s) s)) })[k]? = some { s with lb := (needF s.lb (segOf style (toOf count layer s) s)) } := List.getElem?_set_self hkk
       refine Tr.unfold (sls_open hgg hs) (by with_reducible repeat constructor) fun _ _ => ?_
       dsimp only [List.cons_append, List.nil_append]
       refine Tr.unfold bp_open (by exact .here) fun _ _ => ?_
       dsimp only [List.cons_append, List.nil_append]
       refine Tr.fact (p := one? gg.1 = true ∧ one? gg.2 = true) (fun F w hw => ⟨SlV.one (SlV.of hw), SlV.one (SlV.of hw.drop)⟩) fun hog => ?_
       have hw1 := was0_le hso.b hlt2 ht.2
       have hw0 := hso.b.ends.was0 s.said
       have hw2 := hso.b.le ((toOf count layer s) - 1) (by omega)
       have hbl := body_len hso hlt2 ht.2
       refine tr_region (tmv rfl (tnc rfl (trl_pv (pv_fieldAddr runUnderlying83 rfl sizeOf80 rfl rfl) (trl_val (rv_load isAgg80 rfl (by with_reducible repeat constructor) rfl) ?_))))
       refine tmv rfl (trl_val (rv_indexAddr_sl runUnderlying80 sizeOf85 rfl rfl (by with_reducible repeat constructor) (by omega) (by omega)) ?_)
       refine trl_pv (pv_fieldAddr runUnderlying85 rfl sizeOf51 rfl rfl) (trl_val (rv_load_agg_sl (us := [.int .i64 s.b.pl, gg.1, gg.2]) isAgg51 sizeOf51 rfl (by with_reducible repeat constructor) rfl (sc_part3 (s := unsay { s with lb := (needF s.lb (segOf style (toOf count layer s) s)) }) (us_get hs3) hgg) (by omega)) ?_)
       refine trl_eff (ef_alloc zeroValue51 (by dsimp only [cellsL, List.toList_toArray]) fun r22 => ?_)
       refine trl_eff0 (ef_store_agg sizeOf51 rfl rfl (by simp [one_int, hog.1, hog.2]) (by with_reducible repeat constructor) rfl ?_)
       refine trl_nil (tr_keep (ks := [0,1,2,3,10,16,17,18,19,20,21,22]) (.cons rfl (.cons rfl (.cons rfl (.cons rfl (.cons rfl (.cons rfl (.cons rfl (.cons rfl (.cons rfl (.cons rfl (.cons rfl (.cons rfl .nil)))))))))))) fun base => ?_)
       refine tr_seq (tr_region (tas rfl (trl_nil (tr_seq (tr_seq (tr_region (tmv rfl (trl_pv (pv_gtr rfl rfl) (trl_nil ?_)))))))))
       refine tr_join (α := Unit) (fun _ => [(0, lv), (1, .int .i64 style), (2, .int .i64 (count : Nat)), (3, .int .i64 (layer : Nat)), (10, .pointer (some ⟨w, 0, none⟩)), (16, xb), (17, .int .i64 (j : Nat)), (18, .pointer (some ⟨g.r, 0, none⟩)), (19, .int .i64 (k : Nat)), (21, .int .i64 ((toOf count layer s) : Nat)), (22, .pointer (some ⟨r22, 0, none⟩)), (23, .int .i64 (was0 s.said (endsOf s.b)))]) (fun _ => [pt r22 51 [.int .i64 s.b.pl, gg.1, gg.2], Sl 47 1 G.length lv (G.map fun g => Value.pointer (some ⟨g.r, 0, none⟩)), WR w (⟨e.bits ++ (headF style layer (toOf count layer s) bd k s).bits, [], []⟩ : ES).bits, Sl 5 1 e.body.length xb (u8s e.body), pt g.r 83 [.int .i64 bd.planes, g.v, .pointer (some ⟨g.rF, 0, none⟩), .pointer (some ⟨g.rZ, 0, none⟩), .bool st], Sl 85 5 bd.ss.length g.v (scells (us (bd.ss.set k { s with lb := (needF s.lb (segOf style (toOf count layer s) s)) })) g.gs), Sl 90 2 s.b.ps.length gg.1 (passC s.b.ps), Sl 5 1 s.b.bys.length gg.2 (u8s s.b.bys), SLs (BP 90 5) (g.gs.eraseIdx k) (bd.ss.eraseIdx k), RG g.rF bd.sh (head1 layer (toOf count layer s) bd k s).2, RG g.rZ bd.sh (head2 bd k s).2, SLs RB (G.eraseIdx j) (e.bds.eraseIdx j)]) (fun K8 hK8 => ?_) ?_
       ·refine tr_if rfl (fun h8 => ?_) (fun h8 => ?_)
        ·refine tr_region (trl_pv (pv_fieldAddr runUnderlying51 rfl sizeOf49 rfl rfl) (trl_val (rv_load isAgg49 rfl (by with_reducible repeat constructor) rfl) ?_))
         refine tmv rfl (trl_pv (pv_conv (pv_subI rfl rfl (by omega) (by omega)) (congrArg (Value.int .i64) (show (s.said : Int) - 1 = ((s.said - 1 : Nat) : Int) from by omega))) ?_)
         refine trl_val (rv_indexAddr_sl runUnderlying49 sizeOf90 rfl rfl (by with_reducible repeat constructor) (by omega) (by omega)) ?_
         refine trl_pv (pv_fieldAddr runUnderlying90 rfl sizeOf3 rfl rfl) (trl_val (rv_load_sl isAgg3 rfl (by with_reducible repeat constructor) (show (passC s.b.ps)[((s.said - 1 : Nat) : Int).toNat * 2 + 0]? = some (.int .i64 ((endsOf s.b).getD (s.said - 1) 0)) from pc_end (by omega))) ?_)
         refine tas rfl (trl_nil (tr_keep (ks := [0,1,2,3,10,16,17,18,19,21,22,23]) (.cons rfl (.cons rfl (.cons rfl (.cons rfl (.cons rfl (.cons rfl (.cons rfl (.cons rfl (.cons rfl (.cons rfl (.cons rfl (.cons rfl .nil)))))))))))) fun base => ?_))
         refine tr_meet hK8 () (.cons rfl (.cons rfl (.cons rfl (.cons rfl (.cons rfl (.cons rfl (.cons rfl (.cons rfl (.cons rfl (.cons rfl (.cons rfl (.cons (keep_int rfl (show _ = was0 s.said (endsOf s.b) from by unfold was0; rw [if_pos (by omega)])) .nil)))))))))))) (by dsimp only; rw [hd]; simp only [← List.append_assoc]; exact holds_of_picks (by with_reducible repeat constructor))
        ·refine tr_skip (tr_meet hK8 () (.cons rfl (.cons rfl (.cons rfl (.cons rfl (.cons rfl (.cons rfl (.cons rfl (.cons rfl (.cons rfl (.cons rfl (.cons rfl (.cons (keep_int rfl (show _ = was0 s.said (endsOf s.b) from by unfold was0; rw [if_neg (by omega)])) .nil)))))))))))) (by dsimp only; rw [hd]; simp only [← List.append_assoc]; exact holds_of_picks (by with_reducible repeat constructor)))
       ·intro y base
        refine tr_draww (rem := [0,1,2,3,4,5,6,7,8,9,10,11,12,13]) (by kernel_rfl) (by kernel_rfl) rfl ?_
        refine twm 0 [12,13] rfl (by kernel_rfl) rfl rfl (trw_pure 1 [2,11,12,13] rfl (by kernel_rfl) rfl (pv_fieldAddr runUnderlying51 rfl sizeOf30 rfl rfl) (twm 3 [11,12,13] rfl (by kernel_rfl) rfl rfl (trw_pure 4 [5,8,9,10,11,12,13] rfl (by kernel_rfl) rfl (pv_fieldAddr runUnderlying51 rfl sizeOf49 rfl rfl) (twm 6 [7,8,9,10,11,12,13] rfl (by kernel_rfl) rfl rfl (trw_pure 7 [8,9,10,11,12,13] rfl (by kernel_rfl) rfl (pv_conv (pv_subI rfl rfl (by omega) (by omega)) (congrArg (Value.int .i64) (show ((toOf count layer s) : Int) - 1 = (((toOf count layer s) - 1 : Nat) : Int) from by omega))) ?_)))))
        refine trw_read 2 [11,12,13] rfl (by kernel_rfl) rfl (rv_load isAgg30 rfl (by with_reducible repeat constructor) rfl) ?_
        refine trw_read 5 [8,9,10,11,12,13] rfl (by kernel_rfl) rfl (rv_load isAgg49 rfl (by with_reducible repeat constructor) rfl) ?_
        refine trw_read 8 [9,10,11,12,13] rfl (by kernel_rfl) rfl (rv_indexAddr_sl runUnderlying49 sizeOf90 rfl rfl (by with_reducible repeat constructor) (by omega) (by omega)) ?_
        refine trw_pure 9 [10,11,12,13] rfl (by kernel_rfl) rfl (pv_fieldAddr runUnderlying90 rfl sizeOf3 rfl rfl) (trw_read 10 [11,12,13] rfl (by kernel_rfl) rfl (rv_load_sl isAgg3 rfl (by with_reducible repeat constructor) (show (passC s.b.ps)[(((toOf count layer s) - 1 : Nat) : Int).toNat * 2 + 0]? = some (.int .i64 ((endsOf s.b).getD ((toOf count layer s) - 1) 0)) from pc_end (by omega))) ?_)
        refine trw_read 11 [12,13] rfl (by kernel_rfl) rfl (rv_slice_sl runUnderlying30 sizeOf5 rfl (by with_reducible repeat constructor) rfl rfl (by omega) (by omega) (by omega)) ?_
        refine trw_one 12 (by kernel_rfl) ?_
        refine trwat_eff rfl rfl rfl (ef_append runUnderlying30 runUnderlying30 typeInfo5 sizeOf5 zeroValue5 rfl rfl rfl (by with_reducible repeat constructor) (reads_sub (i := (was0 s.said (endsOf s.b)).toNat) (j := ((endsOf s.b).getD ((toOf count layer s) - 1) 0).toNat) (vs := u8s (bodyF s (toOf count layer s))) (by with_reducible repeat constructor) (by omega) (by omega) (body_u8s s _)) (by rw [u8s_length, Nat.mul_one]; exact hbl) one_u8s (by rw [show Tryz.t5.bytes = 1 from rfl]; omega) fun v168 ho168 => ?_)
        refine ⟨?_, trivial⟩
        refine trw_pure 13 [] rfl (by kernel_rfl) rfl (pv_assign rfl) (trw_nil (tr_keep (ks := [0,1,2,3,10,16,17,18,19]) (.cons rfl (.cons rfl (.cons rfl (.cons rfl (.cons rfl (.cons rfl (.cons rfl (.cons rfl (.cons rfl .nil))))))))) fun base => ?_))
        refine tr_inBlock (tr_region (tmv rfl (trl_pv (pv_addI rfl rfl (by omega) (by omega)) ?_)))
        refine tas rfl (trl_nil ?_)
        dsimp only
        refine Tr.fold (bp_fold (tp := 90) (tb := 5) (g := gg) (s := s)) (by with_reducible repeat constructor) ?_
        refine Tr.fold (sls_fold (A := BP 90 5) hgg hs) (by with_reducible repeat constructor) ?_
        refine Tr.fold (rb_fold (g := g) (bd := (stepF style count layer bd k s)) (r := g.r) (v := g.v) (p := bd.planes) (rF := g.rF) (rZ := g.rZ) (st := st) (n := bd.ss.length) (cs := scells (us (bd.ss.set k { s with lb := (needF s.lb (segOf style (toOf count layer s) s)) })) g.gs) (ss' := bd.ss) (T1 := (head1 layer (toOf count layer s) bd k s).2) (T2 := (head2 bd k s).2) (sh := bd.sh) (by simp [stepF, hgl]) rfl rfl rfl rfl rfl (fun _ => hst (fun e => by rw [e] at hs; simp at hs)) (by simp [stepF]) (by rw [show ((stepF style count layer bd k s)).ss = bd.ss.set k { s with said := (toOf count layer s), lb := (needF s.lb (segOf style (toOf count layer s) s)) } from by unfold stepF; rw [hd], ← us_set, ← us_set]; rfl) (by rw [show ((stepF style count layer bd k s)).ss = bd.ss.set k { s with said := (toOf count layer s), lb := (needF s.lb (segOf style (toOf count layer s) s)) } from by unfold stepF; rw [hd]]; exact (map_b_set (s' := { s with said := (toOf count layer s), lb := (needF s.lb (segOf style (toOf count layer s) s)) }) hs rfl).symm) (by unfold stepF; rw [hd]) (by unfold stepF; rw [hd]) rfl) (by with_reducible repeat constructor) ?_
        refine Tr.fold (sls_put (A := RB) hg hlt) (by with_reducible repeat constructor) ?_
        refine tr_again ih3 (k + 1, v168) (by first | omega | (dsimp only; omega)) (.cons rfl (.cons rfl (.cons rfl (.cons rfl (.cons rfl (.cons rfl (.cons rfl (.cons rfl (.cons (keep_int rfl (by first | omega | (dsimp only; omega))) .nil))))))))) (by dsimp only; rw [hEn, if_pos hlt2, List.length_append, hbl, u8s_append]; exact holds_pure ⟨by omega, ho168⟩ (holds_of_picks (by with_reducible repeat constructor)))
    ·refine tr_exit rfl (tr_inBlock (tr_region (tmv rfl (trl_pv (pv_addI rfl rfl (by omega) (by omega)) ?_))))
     refine tas rfl (trl_nil (tr_keep (ks := [0,1,2,3,10,16,17]) (.cons rfl (.cons rfl (.cons rfl (.cons rfl (.cons rfl (.cons rfl (.cons rfl .nil))))))) fun base => ?_))
     obtain rfl : k = nn := by omega
     refine Tr.fold (rb_fold (g := g) (bd := bd) hgl rfl rfl rfl rfl rfl hst rfl rfl rfl rfl rfl rfl) (by with_reducible repeat constructor) ?_
     refine Tr.fold (sls_fold (A := RB) hg hbd) (by with_reducible repeat constructor) ?_
     rw [hE, ← hos]
     refine tr_again ih2 (j + 1, xb) (by first | omega | (dsimp only; omega)) (.cons rfl (.cons rfl (.cons rfl (.cons rfl (.cons rfl (.cons rfl (.cons (keep_int rfl (by first | omega | (dsimp only; omega))) .nil))))))) (holds_pure ⟨(by first | omega | (dsimp only; omega)), hxb⟩ (holds_of_picks (by with_reducible repeat constructor)))
   ·refine tr_exit rfl (tr_seq ?_)
    obtain rfl : j = bds.length := by omega
    have hEf := eAt_ok (style := style) (show layer ≤ 100 by omega) hL (offL (counts bds) bds.length)
    have htf : (0 + ((spotsL (counts bds) 0).take (offL (counts bds) bds.length)).length) ≤ 100 := by simp; omega
    rw [eAt_all] at hEf ⊢
    have hbits := hEf.bits
    refine tr_region (tmv rfl (trl_eff (ef_call rfl rfl call36 (wr_bytes (bs := (encAll style count layer bds).bits) (by omega)) (by with_reducible repeat constructor) fun v170 ho170 => ?_)))
    dsimp only [List.cons_append, List.nil_append]
    refine tmv rfl (tas rfl (tas rfl (trl_nil (tr_keep (ks := [8,9]) (.cons rfl (.cons rfl .nil)) fun base => ?_))))
    refine tr_ret func11 rfl .nil (by kernel_rfl) (.tmp rfl (.tmp rfl .nil)) (v170, xb) rfl ⟨ho170, hxb⟩ (holds_of_picks (by with_reducible repeat constructor))
end Go.Proofs
