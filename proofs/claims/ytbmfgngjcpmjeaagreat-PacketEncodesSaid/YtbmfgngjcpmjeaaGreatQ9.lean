/- Contracts of functions that the law reaches, in every memory (part Q9). -/
import Derived.Test.YtbmfgngjcpmjeaaGreatQ8
set_option linter.unusedVariables false
set_option linter.unusedSimpArgs false
set_option maxRecDepth 10000
namespace Go.Proofs
open Go.Eng Tryz
theorem mid_swap {α : Type} {A B B' C : List α} (h : B'.length = B.length) : (A ++ B ++ C).take A.length ++ B' ++ (A ++ B ++ C).drop (A.length + B'.length) = A ++ B' ++ C := by
  have h1 : (A ++ B ++ C).take A.length = A := by rw [List.append_assoc]; exact List.take_left
  have h2 : (A ++ B ++ C).drop (A.length + B'.length) = C := by rw [h, ← List.length_append]; exact List.drop_left
  rw [h1, h2]
def putX (c : Cd) (x : Cxs) : Cd := { c with cx := x }
section
variable {P : Program} {ty t : TypeId} {l : List (Nat × Value)} {base : Env} {L M : List SL} {x y : Operand} {K : Value → List SL → Prop} {g : Cg} {c : Cd} {k : Nat}
theorem one_cxC {cx : Cxs} : ∀ v ∈ cxC cx, one? v = true := by
  intro v hv
  unfold cxC at hv
  rw [List.mem_flatMap] at hv
  obtain ⟨o, _, h⟩ := hv
  simp only [encO, List.mem_cons, List.not_mem_nil, or_false] at h
  rcases h with rfl | rfl <;> rfl
theorem ef_cdx {cx : Cxs} (hz : ∀ w, (sizeOf t).run P w = .ok 38 w) (hx : evO l x = some (.pointer (some ⟨g.r, 9, none⟩))) (hy : evO l y = some (.agg (cxC cx).toArray)) (hp : Pick (CD g c) L M) (hf : Fit g c k) (hl : cx.length = 19)
    (hk : K undef (CD g (putX c cx) :: M)) : EffT P (.store t x y) ty (Eng.look l base) L K := by
  refine EffT.fold (EffT.unfold (K := fun v L' => v = undef ∧ ∀ F w, Holds L' F w → Holds (CD g (putX c cx) :: M) F w) cd_open hp fun _ _ => ?_) (fun v L' h => ⟨_, by rw [h.1]; exact hk, h.2⟩)
  dsimp only [cdP, List.cons_append, List.nil_append]
  have h1 : (cxC cx).length = 38 := by rw [cxC_length, hl]
  have h2 : (cxC c.cx).length = 38 := by rw [cxC_length, hf.ok.cx.1]
  refine ef_store_agg_s (sz := 38) hz hx hy one_cxC h1 .here (by unfold cdC; simp only [List.length_append, h1, h2]; show 9 + 38 ≤ 9 + 38 + 6; decide) ⟨rfl, fun F w hw => cd_fold F w M ?_⟩
  rw [show (cdC g c.cx).take 9 ++ cxC cx ++ (cdC g c.cx).drop (9 + (cxC cx).length) = cdC g (putX c cx).cx from by
    exact mid_swap (A := cdH g) (by rw [h1, h2])] at hw
  exact hw.perm (Picks.perm (As := cdP g (putX c cx)) (by dsimp only [cdP, putX, List.cons_append, List.nil_append]; exact (by with_reducible repeat constructor)))
end
def wipe (c : Cd) (i : Nat) : Cd := putE c (List.replicate i false ++ c.seen.drop i)
theorem wipe_zero (c : Cd) : wipe c 0 = c := rfl
theorem wipe_succ {c : Cd} {i : Nat} (h : i < c.seen.length) : putE (wipe c i) ((wipe c i).seen.set i false) = wipe c (i + 1) := by
  show putE c ((List.replicate i false ++ c.seen.drop i).set i false) = putE c _
  congr 1
  apply List.ext_getElem?
  intro j
  by_cases hj : i = j
  · subst hj
    rw [List.getElem?_set_self (by simp; omega), List.getElem?_append_left (by simp)]
    simp
  · rw [List.getElem?_set_ne hj]
    by_cases h1 : j < i
    · rw [List.getElem?_append_left (by simpa using h1), List.getElem?_append_left (by simp; omega)]
      rw [List.getElem?_replicate, List.getElem?_replicate, if_pos h1, if_pos (by omega)]
    · rw [List.getElem?_append_right (by simp; omega), List.getElem?_append_right (by simp; omega)]
      simp only [List.length_replicate, List.getElem?_drop]
      congr 1; omega
theorem wipe_end {c : Cd} {i : Nat} (h : i = c.seen.length) : wipe c i = unseen c := by
  subst h
  unfold wipe putE unseen
  rw [List.drop_of_length_le (Nat.le_refl _), List.append_nil]
theorem wipe_fit {g : Cg} {c : Cd} {k i : Nat} (h : Fit g c k) (hi : i ≤ c.seen.length) : Fit g (wipe c i) k := ⟨⟨h.ok.w1, h.ok.w2, h.ok.h1, h.ok.h2, h.ok.mag, h.ok.neg, h.ok.sig, by show (List.replicate i false ++ c.seen.drop i).length = _; rw [List.length_append, List.length_replicate, List.length_drop, Nat.add_sub_cancel' hi]; exact h.ok.seen, h.ok.again, h.ok.cx, h.ok.e, h.ok.rw⟩, h.w, h.h, h.band, h.style, h.raw, h.mag, h.le, h.lr⟩
theorem symF_adv {c : Cd} (hc : CdOk c) (k : Nat) : Adv c (symF c k) 16 := bitF_adv hc (by omega) _
theorem k_cleanup {g : Cg} {c : Cd} {n0 plane : Nat} (hg : GOk g) (hf : Fit g c n0) (hn : 300000 ≤ n0) (hp : plane ≤ 60) :
    Spec Tryz.prog 103 [g.p, .int .i64 (plane : Nat)] [CD g c] (fun _ : Unit => ⟨.tuple #[], True, [CD g (cleanPass plane c)]⟩) := by
 refine spec_of_tr func103 rfl ntmps103 (by kernel_rfl) ?_
 have hw1 := hg.w1
 have hw2 := hg.w2
 have hh1 := hg.h1
 have hh2 := hg.h2
 refine tr_seq (tr_seq (tr_region (tas rfl (trl_nil (tr_block (tr_while (α := Nat × Cd) ((0, c)) (fun z => 17 - z.1) (fun z => [(0, g.p), (1, .int .i64 (plane : Nat)), (4, .int .i64 ((4 * z.1 : Nat) : Int))]) (fun z => [pure' (z.1 ≤ stripes c ∧ z.2 = foldN (rowF plane) c z.1), CD g z.2]) (ks := [0,1,4]) (.cons rfl (.cons rfl (.cons rfl .nil))) (holds_pure ⟨Nat.zero_le _, rfl⟩ (holds_of_picks (by with_reducible repeat constructor))) ?_))))))
 intro ⟨s, c1⟩ base ih0
 refine Tr.pure fun ⟨hs, hc⟩ => ?_
 dsimp only at hs hc ⊢
 have hst : stripes c = (g.h + 3) / 4 := by unfold stripes; rw [hf.h]
 have ha : Adv c c1 (12288 * s) := by rw [hc]; exact foldN_adv (fun c x hc => rowF_adv hc plane x) hf.ok s
 have hf1 : Fit g c1 (n0 - 12288 * s) := hf.adv ha (by omega)
 refine tr_seq (tr_seq (tr_region (tmv rfl (tmv rfl (tnc rfl (trl_pv (pv_fieldAddr runUnderlying133 rfl sizeOf3 rfl rfl) (trl_val (rv_cd isAgg3 rfl (by with_reducible repeat constructor) rfl) ?_)))))))
 refine trl_pv (pv_lss rfl rfl) (trl_nil (tr_if rfl (fun h0 => ?_) (fun h0 => ?_)))
 ·refine tr_skip (tr_seq (tr_block (tr_seq (tr_region (tas rfl (trl_nil (tr_block (tr_while (α := Nat × Cd) ((0, c1)) (fun z => 64 - z.1) (fun z => [(0, g.p), (1, .int .i64 (plane : Nat)), (4, .int .i64 ((4 * s : Nat) : Int)), (5, .int .i64 (z.1 : Nat))]) (fun z => [pure' (z.1 ≤ g.w ∧ z.2 = foldN (fun c x => column plane c x (4 * s)) c1 z.1), CD g z.2]) (ks := [0,1,4,5]) (.cons rfl (.cons rfl (.cons rfl (.cons rfl .nil)))) (holds_pure ⟨Nat.zero_le _, rfl⟩ (holds_of_picks (by with_reducible repeat constructor))) ?_))))))))
  intro ⟨x, c2⟩ base ih1
  refine Tr.pure fun ⟨hx, hc2⟩ => ?_
  dsimp only at hx hc2 ⊢
  have ha2 : Adv c1 c2 (192 * x) := by rw [hc2]; exact foldN_adv (fun c x hc => column_adv hc plane x (4 * s)) hf1.ok x
  have hf2 : Fit g c2 (n0 - 12288 * s - 192 * x) := hf1.adv ha2 (by omega)
  refine tr_seq (tr_seq (tr_region (tmv rfl (tmv rfl (tnc rfl (trl_pv (pv_fieldAddr runUnderlying133 rfl sizeOf3 rfl rfl) (trl_val (rv_cd isAgg3 rfl (by with_reducible repeat constructor) rfl) ?_)))))))
  refine trl_pv (pv_lss rfl rfl) (trl_nil (tr_if rfl (fun h1 => ?_) (fun h1 => ?_)))
  ·refine tr_skip (tr_seq (tr_block (tr_region (tmv rfl (tmv rfl (tmv rfl (tmv rfl (trl_eff (ef_call rfl rfl call126 (k_column hg hf2 (by omega) (x := x) (y := 4 * s) (by omega) (by omega) hp) (by with_reducible repeat constructor) fun x28 hx28 => ?_)))))))))
   dsimp only [List.cons_append, List.nil_append]
   refine trl_nil (tr_keep (ks := [0,1,4,5]) (.cons rfl (.cons rfl (.cons rfl (.cons rfl .nil)))) fun base => ?_)
   refine tr_inBlock (tr_region (tmv rfl (trl_pv (pv_addI rfl rfl (by omega) (by omega)) ?_)))
   refine tas rfl (trl_nil (tr_again ih1 (x + 1, column plane c2 x (4 * s)) (by first | omega | (dsimp only; omega)) (.cons rfl (.cons rfl (.cons rfl (.cons rfl .nil)))) (holds_pure ⟨by dsimp only; omega, by dsimp only; rw [foldN_succ, ← hc2]⟩ (holds_of_picks (by with_reducible repeat constructor)))))
  ·refine tr_exit rfl (tr_inBlock (tr_region (tmv rfl (trl_pv (pv_conv (pv_addI rfl rfl (by omega) (by omega)) (congrArg (Value.int .i64) (show ((4 * s : Nat) : Int) + 4 = ((4 * (s + 1) : Nat) : Int) from by omega))) ?_))))
   refine tas rfl (trl_nil (tr_keep (ks := [0,1,4]) (.cons rfl (.cons rfl (.cons rfl .nil))) fun base => ?_))
   refine tr_again ih0 (s + 1, c2) (by first | omega | (dsimp only; omega)) (.cons rfl (.cons rfl (.cons rfl .nil))) (holds_pure ⟨by dsimp only; omega, by dsimp only; have hxw : x = g.w := (by omega); rw [foldN_succ, ← hc, hc2, hxw]; unfold rowF foldN; rw [hf1.w]⟩ (holds_of_picks (by with_reducible repeat constructor)))
 ·refine tr_exit rfl (tr_seq (tr_seq ?_))
  have hcl : c1 = cleanA plane c := by rw [hc, show s = stripes c by omega]; rfl
  have hsl : c1.seen.length = g.w * g.h := by rw [hf1.ok.seen, hf1.w, hf1.h]
  have hN := Nat.mul_le_mul hw2 hh2
  refine tr_region (tas rfl (trl_nil (tr_keep (ks := [0,6]) (.cons rfl (.cons rfl .nil)) fun base => ?_)))
  refine tr_block (tr_while (α := Nat) (0) (fun i => g.w * g.h - i) (fun i => [(0, g.p), (6, .int .i64 (i : Nat))]) (fun i => [pure' (i ≤ g.w * g.h), CD g (wipe c1 i)]) (ks := [0,6]) (.cons rfl (.cons rfl .nil)) (holds_pure (Nat.zero_le _) (by rw [wipe_zero]; exact holds_of_picks (by with_reducible repeat constructor))) ?_)
  intro i base ih2
  refine Tr.pure fun hi => ?_
  have hf3 := wipe_fit hf1 (i := i) (by omega)
  refine tr_seq (tr_seq (tr_region (tmv rfl (tmv rfl (tnc rfl (trl_pv (pv_fieldAddr runUnderlying133 rfl sizeOf123 rfl rfl) (trl_val (rv_cd isAgg123 rfl (by with_reducible repeat constructor) rfl) ?_)))))))
  refine trl_pv (pv_len_v runUnderlying123 rfl hg.e) (trl_pv (pv_lss rfl rfl) (trl_nil (tr_if rfl (fun h2 => ?_) (fun h2 => ?_))))
  ·refine tr_skip (tr_seq (tr_block (tr_region (tmv rfl (tnc rfl (trl_pv (pv_fieldAddr runUnderlying133 rfl sizeOf123 rfl rfl) (trl_val (rv_cd isAgg123 rfl (by with_reducible repeat constructor) rfl) ?_)))))))
   refine tmv rfl (trl_pv (pv_indexAddr_v runUnderlying123 sizeOf4 rfl rfl hg.e (Int.natCast_nonneg _) (Int.ofNat_lt.2 (by omega))) ?_)
   refine trl_eff0 (ef_cde sizeOf4 rfl rfl (by with_reducible repeat constructor) hf3 (by omega) ?_)
   refine trl_nil ?_
   rw [wipe_succ (by omega)]
   refine tr_keep (ks := [0,6]) (.cons rfl (.cons rfl .nil)) fun base => ?_
   refine tr_inBlock (tr_region (tmv rfl (trl_pv (pv_addI rfl rfl (by omega) (by omega)) ?_)))
   refine tas rfl (trl_nil (tr_again ih2 (i + 1) (by first | omega | (dsimp only; omega)) (.cons rfl (.cons rfl .nil)) (holds_pure (by omega) (holds_of_picks (by with_reducible repeat constructor)))))
  ·refine tr_exit rfl (tr_seq ?_)
   obtain rfl : i = g.w * g.h := by omega
   have hun : wipe c1 (g.w * g.h) = unseen (cleanA plane c) := by rw [wipe_end hsl.symm, hcl]
   rw [hun] at hf3 ⊢
   refine tr_region (tmv rfl (tnc rfl (trl_pv (pv_fieldAddr runUnderlying133 rfl sizeOf3 rfl rfl) (trl_val (rv_cd isAgg3 rfl (by with_reducible repeat constructor) rfl) ?_))))
   refine trl_pv (pv_and rfl rfl) (trl_pv (pv_neq rfl rfl) (trl_nil (tr_keep (ks := [0,49]) (.cons rfl (.cons rfl .nil)) fun base => ?_)))
   refine tr_if rfl (fun h3 => ?_) (fun h3 => ?_)
   ·refine tr_seq (tr_region (tas rfl (trl_nil (tr_block (tr_while (α := Nat × Cd) ((0, unseen (cleanA plane c))) (fun z => 4 - z.1) (fun z => [(0, g.p), (7, .int .i64 (z.1 : Nat))]) (fun z => [pure' (z.1 ≤ 4 ∧ z.2 = foldN symF (unseen (cleanA plane c)) z.1), CD g z.2]) (ks := [0,7]) (.cons rfl (.cons rfl .nil)) (holds_pure ⟨Nat.zero_le _, rfl⟩ (holds_of_picks (by with_reducible repeat constructor))) ?_)))))
    intro ⟨k, c4⟩ base ih3
    refine Tr.pure fun ⟨hk, hc4⟩ => ?_
    dsimp only at hk hc4 ⊢
    have ha4 : Adv (unseen (cleanA plane c)) c4 (16 * k) := by rw [hc4]; exact foldN_adv (fun c k hc => symF_adv hc k) hf3.ok k
    have hf4 : Fit g c4 (n0 - 12288 * s - 16 * k) := hf3.adv ha4 (by omega)
    refine tr_seq (tr_seq (tr_region (tmv rfl (trl_pv (pv_lss rfl rfl) (trl_nil (tr_if rfl (fun h4 => ?_) (fun h4 => ?_)))))))
    ·refine tr_skip (tr_seq (tr_block (tr_region (tmv rfl (tmv rfl (trl_pv (pv_remI rfl rfl (by omega) (by omega)) ?_))))))
     refine trl_pv (pv_subI rfl rfl (by omega) (by omega)) ?_
     refine trl_eff (ef_call rfl rfl call127 (k_bit (k := 18) hg hf4 (by decide)) (by with_reducible repeat constructor) fun x58 hx58 => ?_)
     dsimp only [List.cons_append, List.nil_append]
     refine trl_nil (tr_keep (ks := [0,7]) (.cons rfl (.cons rfl .nil)) fun base => ?_)
     refine tr_inBlock (tr_region (tmv rfl (trl_pv (pv_addI rfl rfl (by omega) (by omega)) ?_)))
     refine tas rfl (trl_nil (tr_again ih3 (k + 1, symF c4 k) (by first | omega | (dsimp only; omega)) (.cons rfl (.cons rfl .nil)) (by rw [show bitF c4 18 (1 - (k : Int) % 2) = symF c4 k from rfl]; exact holds_pure ⟨by dsimp only; omega, by dsimp only; rw [foldN_succ, ← hc4]⟩ (holds_of_picks (by with_reducible repeat constructor)))))
    ·refine tr_exit rfl ?_
     obtain rfl : k = 4 := by omega
     refine tr_end func103 rfl .nil (by kernel_rfl) .nil () rfl trivial (by rw [show cleanPass plane c = c4 from (if_pos (by rw [hf.style]; exact h3)).trans hc4.symm]; exact holds_of_picks (by with_reducible repeat constructor))
   ·refine tr_skip (tr_end func103 rfl .nil (by kernel_rfl) .nil () rfl trivial (by rw [show cleanPass plane c = unseen (cleanA plane c) from if_neg (by rw [hf.style]; exact h3)]; exact holds_of_picks (by with_reducible repeat constructor)))
theorem k_pass {g : Cg} {c : Cd} {n0 k planes : Nat} (hg : GOk g) (hf : Fit g c n0) (hn : 300000 ≤ n0) (hk : k + 2 < 3 * planes) (hp : planes ≤ 60) :
    Spec Tryz.prog 59 [g.p, .int .i64 (k : Nat), .int .i64 (planes : Nat)] [CD g c] (fun _ : Unit => ⟨.tuple #[], True, [CD g (passF c k planes)]⟩) := by
 refine spec_of_tr func59 rfl ntmps59 (by kernel_rfl) ?_
 refine tr_seq (tr_seq (tr_region (tmv rfl (tnc rfl (trl_pv (pv_fieldAddr runUnderlying133 rfl sizeOf3 rfl rfl) (trl_val (rv_cd isAgg3 rfl (by with_reducible repeat constructor) rfl) ?_))))))
 refine trl_pv (pv_and rfl rfl) (trl_pv (pv_neq rfl rfl) (trl_nil ?_))
 refine tr_join (α := Unit) (fun _ => [(0, g.p), (1, .int .i64 (k : Nat)), (2, .int .i64 (planes : Nat))]) (fun _ => [CD g (resetF c)]) (fun K0 hK0 => ?_) ?_
 ·refine tr_if rfl (fun h0 => ?_) (fun h0 => ?_)
  ·refine tr_region (tmv rfl (trl_eff (ef_call rfl rfl call99 (q_fresh) (by with_reducible repeat constructor) fun x14 hx14 => ?_)))
   dsimp only [List.cons_append, List.nil_append]
   refine tnc rfl (trl_pv (pv_fieldAddr runUnderlying133 rfl sizeOf127 rfl rfl) (trl_eff0 (ef_cdx sizeOf127 rfl rfl (by with_reducible repeat constructor) hf (freshCx_ok).1 ?_)))
   refine trl_nil (tr_keep (ks := [0,1,2]) (.cons rfl (.cons rfl (.cons rfl .nil))) fun base => ?_)
   refine tr_meet hK0 () (.cons rfl (.cons rfl (.cons rfl .nil))) (by rw [show resetF c = putX c freshCx from if_pos (by rw [hf.style]; exact h0)]; exact holds_of_picks (by with_reducible repeat constructor))
  ·refine tr_skip (tr_meet hK0 () (.cons rfl (.cons rfl (.cons rfl .nil))) (by rw [show resetF c = c from if_neg (by rw [hf.style]; exact h0)]; exact holds_of_picks (by with_reducible repeat constructor)))
 ·intro u base
  have hfr : Fit g (resetF c) n0 := hf.adv (resetF_adv hf.ok) (by omega)
  refine tr_seq (tr_region (tmv rfl (trl_pv (pv_conv (pv_subI rfl rfl (by omega) (by omega)) (congrArg (Value.int .i64) (show (planes : Int) - 1 = ((planes - 1 : Nat) : Int) from by omega))) ?_)))
  refine tmv rfl (trl_pv (pv_conv (pv_addI rfl rfl (by omega) (by omega)) (congrArg (Value.int .i64) (show (k : Int) + 2 = ((k + 2 : Nat) : Int) from by omega))) ?_)
  refine trl_pv (pv_conv (pv_quoI rfl rfl (by omega) (by omega) (by omega)) (congrArg (Value.int .i64) (show ((k + 2 : Nat) : Int) / 3 = (((k + 2) / 3 : Nat) : Int) from by omega))) ?_
  refine trl_pv (pv_conv (pv_subI rfl rfl (by omega) (by omega)) (congrArg (Value.int .i64) (show ((planes - 1 : Nat) : Int) - (((k + 2) / 3 : Nat) : Int) = ((planes - 1 - (k + 2) / 3 : Nat) : Int) from by omega))) ?_
  refine tas rfl (trl_nil (tr_keep (ks := [0,1,6]) (.cons rfl (.cons rfl (.cons rfl .nil))) fun base => ?_))
  refine tr_seq (tr_region (tmv rfl (trl_eff (ef_call rfl rfl call100 (r_kind (k := (k : Int)) (by omega) (by omega)) (by with_reducible repeat constructor) fun x24 hx24 => ?_))))
  dsimp only [List.cons_append, List.nil_append]
  refine trl_nil (tr_block (tr_seq (tr_region (trl_pv (pv_eql rfl rfl) (tas rfl (trl_nil (tr_if rfl (fun h1 => ?_) (fun h1 => ?_))))))))
  ·refine tr_region (tmv rfl (tmv rfl (trl_eff (ef_call rfl rfl call101 (k_significance hg hfr (by omega) (by omega)) (by with_reducible repeat constructor) fun x32 hx32 => ?_))))
   dsimp only [List.cons_append, List.nil_append]
   refine trl_nil (tr_keep (ks := []) (.nil) fun base => ?_)
   refine tr_inBlock (tr_end func59 rfl .nil (by kernel_rfl) .nil () rfl trivial (by rw [show passF c k planes = sigPass (planes - 1 - (k + 2) / 3) (resetF c) from if_pos h1]; exact holds_of_picks (by with_reducible repeat constructor)))
  ·refine tr_seq (tr_region (trl_pv (pv_eql rfl rfl) (tas rfl (trl_nil (tr_if rfl (fun h2 => ?_) (fun h2 => ?_))))))
   ·refine tr_region (tmv rfl (tmv rfl (trl_eff (ef_call rfl rfl call102 (k_refinement hg hfr (by omega) (by omega)) (by with_reducible repeat constructor) fun x37 hx37 => ?_))))
    dsimp only [List.cons_append, List.nil_append]
    refine trl_nil (tr_keep (ks := []) (.nil) fun base => ?_)
    refine tr_inBlock (tr_end func59 rfl .nil (by kernel_rfl) .nil () rfl trivial (by rw [show passF c k planes = refPass (planes - 1 - (k + 2) / 3) (resetF c) from (if_neg h1).trans (if_pos h2)]; exact holds_of_picks (by with_reducible repeat constructor)))
   ·refine tr_region (tmv rfl (tmv rfl (trl_eff (ef_call rfl rfl call103 (k_cleanup hg hfr hn (by omega)) (by with_reducible repeat constructor) fun x27 hx27 => ?_))))
    dsimp only [List.cons_append, List.nil_append]
    refine trl_nil (tr_keep (ks := []) (.nil) fun base => ?_)
    refine tr_inBlock (tr_end func59 rfl .nil (by kernel_rfl) .nil () rfl trivial (by rw [show passF c k planes = cleanPass (planes - 1 - (k + 2) / 3) (resetF c) from (if_neg h1).trans (if_neg h2)]; exact holds_of_picks (by with_reducible repeat constructor)))
end Go.Proofs
