/- Contracts of functions that the law reaches, in every memory (part Tree2). -/
import Derived.Test.YtbmfgngjcpmjeaaGreatTree
set_option linter.unusedVariables false
set_option linter.unusedSimpArgs false
set_option maxRecDepth 10000
namespace Go.Proofs
open Go.Eng Tryz
theorem tree_encode {r w : Nat} {sh : List (Nat × Nat)} {T : List Nd} {bs : List Bool} {k bound : Int} (hF : Fine sh) (hlen : bs.length + (encT sh T k bound).1.length < 1000000000000) (hb : bound < 1000000000000) :
    Spec Tryz.prog 73 [.pointer (some ⟨r, 0, none⟩), .pointer (some ⟨w, 0, none⟩), .int .i64 k, .int .i64 bound] [PT r sh T, WP w bs]
    (fun _ : Unit => ⟨.tuple #[], True, [PT r sh (encT sh T k bound).2, WP w (bs ++ (encT sh T k bound).1)]⟩) := by
 refine spec_of_tr func73 rfl ntmps73 (by kernel_rfl) ?_
 refine Tr.unfold pt_open .here fun ⟨v, ps⟩ ⟨ho, hl, hT⟩ => ?_
 dsimp only [List.cons_append, List.nil_append] at ho hl hT ⊢
 have hwl := tway_le sh k
 have hwl2 := hF.2.1
 refine tr_seq (tr_region (tas rfl (trl_nil (tr_seq (tr_region (tmv rfl (tmv rfl (trl_eff (ef_call rfl rfl call106 (tree_way hF hl) (by with_reducible repeat constructor) fun v13 ho13 => ?_)))))))))
 dsimp only [List.cons_append, List.nil_append]
 refine trl_val (rv_len_sl runUnderlying192 rfl (by with_reducible repeat constructor)) ?_
 refine tmv rfl (trl_nil (tr_block (tr_while (α := Nat × List Nd × Int × List Bool) ((0, T, 0, [])) (fun x => (tway sh k).length - x.1) (fun x => [(1, .pointer (some ⟨w, 0, none⟩)), (3, .int .i64 bound), (8, .int .i64 x.2.2.1), (13, v13), (14, .int .i64 ((tway sh k).length : Nat)), (15, .int .i64 (x.1 : Nat))]) (fun x => [pure' (x.1 ≤ (tway sh k).length ∧ x.2.1.length = total sh ∧ 0 ≤ x.2.2.1 ∧ encT sh T k bound = (x.2.2.2 ++ (encWay bound ((tway sh k).drop x.1) x.2.1 x.2.2.1).1, (encWay bound ((tway sh k).drop x.1) x.2.1 x.2.2.1).2)), pt r 178 [v], Sl 181 3 sh.length v (lvCells sh ps), NS 184 sh ps x.2.1, Sl 194 1 (tway sh k).length v13 (tptr sh ps k), WP w (bs ++ x.2.2.2)]) (ks := [1,3,8,13,14,15]) (.cons rfl (.cons rfl (.cons rfl (.cons rfl (.cons rfl (.cons rfl .nil)))))) (by simp only [List.append_nil]; exact holds_pure ⟨Nat.zero_le _, hT, Int.le_refl _, rfl⟩ (holds_of_picks (by with_reducible repeat constructor))) ?_)))
 intro ⟨j, T1, low, b1⟩ base ih0
 refine Tr.pure fun ⟨hj0, hT1, hlow, hB⟩ => ?_
 dsimp only at hj0 hT1 hlow hB ⊢
 refine tr_seq (tr_region (trl_pv (pv_lss rfl rfl) (trl_nil (tr_seq (tr_if rfl (fun h0 => ?_) (fun h0 => ?_))))))
 ·refine tr_skip (tr_seq (tr_block (tr_seq ?_)))
  obtain ⟨f, hf⟩ := get_some (l := tway sh k) (i := j) (by omega)
  obtain ⟨i, s, p, jj, hs, hp, hj, rfl, hptr⟩ := way_at hF.1 hl hf
  have hoff := offs_lt hs
  obtain ⟨nd, hnd⟩ := get_some (l := T1) (i := offs sh i + jj) (by omega)
  refine tr_region (trl_val (rv_indexAddr_sl runUnderlying192 sizeOf194 rfl rfl (by with_reducible repeat constructor) (by omega) (by omega)) ?_)
  refine trl_val (rv_load_sl isAgg194 rfl (by with_reducible repeat constructor) (idx1 hptr)) ?_
  refine tas rfl (trl_nil (tr_seq (tr_region (tmv rfl (tmv rfl (tnc rfl (trl_pv (pv_fieldAddr runUnderlying184 rfl sizeOf3 rfl rfl) (trl_val (rv_load_ns isAgg3 rfl (by with_reducible repeat constructor) hs hp hj hnd rfl) ?_))))))))
  refine tmv rfl (trl_pv (pv_maxI rfl rfl) (tnc rfl (trl_pv (pv_fieldAddr runUnderlying184 rfl sizeOf3 rfl rfl) (trl_eff0 (ef_store_ns sizeOf3 rfl rfl rfl (by with_reducible repeat constructor) (⟨nd.n, max nd.low low, nd.said⟩) hs hp hj hnd (by decide) rfl ?_)))))
  refine trl_nil (tr_keep (ks := [1,3,10,13,14,15]) (.cons rfl (.cons rfl (.cons rfl (.cons rfl (.cons rfl (.cons rfl .nil)))))) fun base => ?_)
  refine tr_seq (tr_block (tr_while (α := Nd × List Bool × Nat) ((⟨nd.n, max nd.low low, nd.said⟩, [], (bound - max nd.low low).toNat)) (fun x => x.2.2) (fun x => [(1, .pointer (some ⟨w, 0, none⟩)), (3, .int .i64 bound), (10, .pointer (some ⟨p, jj * 3, none⟩)), (13, v13), (14, .int .i64 ((tway sh k).length : Nat)), (15, .int .i64 (j : Nat))]) (fun x => [pure' (x.2.2 = (bound - x.1.low).toNat ∧ 0 ≤ x.1.low ∧ encNode nd low bound = (x.2.1 ++ (encLoop x.2.2 x.1).1, (encLoop x.2.2 x.1).2)), pt r 178 [v], Sl 181 3 sh.length v (lvCells sh ps), NS 184 sh ps (T1.set (offs sh i + jj) x.1), Sl 194 1 (tway sh k).length v13 (tptr sh ps k), WP w (bs ++ b1 ++ x.2.1)]) (ks := [1,3,10,13,14,15]) (.cons rfl (.cons rfl (.cons rfl (.cons rfl (.cons rfl (.cons rfl .nil)))))) (by dsimp only; rw [List.append_nil]; exact holds_pure ⟨rfl, by first | omega | (dsimp only; omega), by unfold encNode; simp⟩ (holds_of_picks (by with_reducible repeat constructor))) ?_))
  intro ⟨nd2, c1, f⟩ base ih1
  refine Tr.pure fun ⟨hfu, hlo2, hE⟩ => ?_
  dsimp only at hfu hlo2 hE ⊢
  have hnd2 := set_at (x := nd2) hnd
  have hbl : bs.length + b1.length + c1.length < 1000000000000 := by have h1 := congrArg (fun x => x.1.length) (hB.trans (by rw [way_step hf hnd hE])); simp only [List.length_append] at h1; omega
  refine tr_seq (tr_seq (tr_region (tmv rfl (tnc rfl (trl_pv (pv_fieldAddr runUnderlying184 rfl sizeOf3 rfl rfl) (trl_val (rv_load_ns isAgg3 rfl (by with_reducible repeat constructor) hs hp hj hnd2 rfl) ?_))))))
  refine tmv rfl (trl_pv (pv_lss rfl rfl) (tmv rfl (trl_split 6 rfl (fun g34 => ?_) (fun g34 => ?_))))
  ·refine trl_pvg rfl (decide_eq_true g34) (pv_move rfl) (trl_pvg rfl (decide_eq_true g34) (pv_nilCheck rfl) (trl_pvg rfl (decide_eq_true g34) (pv_fieldAddr runUnderlying184 rfl sizeOf4 rfl rfl) (trl_valg rfl (decide_eq_true g34) (rv_load_ns isAgg4 rfl (by with_reducible repeat constructor) hs hp hj hnd2 rfl) ?_)))
   refine trl_pvg rfl (decide_eq_true g34) (pv_not rfl) (trl_pv (pv_pick_t rfl (decide_eq_true g34) rfl) (trl_nil (tr_keep (ks := [1,3,10,13,14,15,40]) (.cons rfl (.cons rfl (.cons rfl (.cons rfl (.cons rfl (.cons rfl (.cons rfl .nil))))))) fun base => ?_)))
   refine tr_ifb rfl (fun h1 => ?_) (fun h1 => ?_)
   ·refine tr_skip (tr_block (tr_seq (tr_seq (tr_draww (rem := [0,1,2,3,4,5,6,7,8,9,10,11,12]) (by kernel_rfl) (by kernel_rfl) rfl ?_))))
    refine twm 0 [10,11,12] rfl (by kernel_rfl) rfl rfl (twm 1 [2,3,4,9,10,11,12] rfl (by kernel_rfl) rfl rfl (twn 2 [3,4,9,10,11,12] rfl (by kernel_rfl) rfl rfl (trw_pure 3 [4,9,10,11,12] rfl (by kernel_rfl) rfl (pv_fieldAddr runUnderlying184 rfl sizeOf3 rfl rfl) (twm 5 [6,7,8,9,10,11,12] rfl (by kernel_rfl) rfl rfl (twn 6 [7,8,9,10,11,12] rfl (by kernel_rfl) rfl rfl (trw_pure 7 [8,9,10,11,12] rfl (by kernel_rfl) rfl (pv_fieldAddr runUnderlying184 rfl sizeOf3 rfl rfl) (trw_read 4 [9,10,11,12] rfl (by kernel_rfl) rfl (rv_load_ns isAgg3 rfl (by with_reducible repeat constructor) hs hp hj hnd2 rfl) ?_)))))))
    refine trw_read 8 [9,10,11,12] rfl (by kernel_rfl) rfl (rv_load_ns isAgg3 rfl (by with_reducible repeat constructor) hs hp hj hnd2 rfl) ?_
    refine trw_pure 9 [10,11,12] rfl (by kernel_rfl) rfl (pv_geq rfl rfl) (twn 10 [11,12] rfl (by kernel_rfl) rfl rfl (trw_pure 11 [12] rfl (by kernel_rfl) rfl (pv_fieldAddr runUnderlying184 rfl sizeOf4 rfl rfl) (trw_one 12 (by kernel_rfl) ?_)))
    refine trwat_eff0 rfl rfl rfl (ef_store_ns sizeOf4 rfl rfl rfl (by with_reducible repeat constructor) (⟨nd2.n, nd2.low, decide (nd2.n ≤ nd2.low)⟩) hs hp hj hnd2 (by decide) rfl ?_)
    refine ⟨?_, trivial⟩
    refine trw_nil ?_
    rw [List.set_set]
    have hnd3 := set_at (x := (⟨nd2.n, nd2.low, decide (nd2.n ≤ nd2.low)⟩ : Nd)) hnd
    refine tr_keep (ks := [1,3,10,13,14,15]) (.cons rfl (.cons rfl (.cons rfl (.cons rfl (.cons rfl (.cons rfl .nil)))))) fun base => ?_
    refine tr_seq (tr_region (tmv rfl (tnc rfl (trl_pv (pv_fieldAddr runUnderlying184 rfl sizeOf4 rfl rfl) (trl_val (rv_load_ns isAgg4 rfl (by with_reducible repeat constructor) hs hp hj hnd3 rfl) ?_)))))
    refine trl_nil (tr_ifb rfl (fun h2 => ?_) (fun h2 => ?_))
    ·replace h2 : decide (nd2.n ≤ nd2.low) = true := h2
     rw [h2] at hnd3 ⊢
     refine tr_seq (tr_region (tmv rfl (trl_eff (ef_call rfl rfl call71 (wp_bit (bs := bs ++ b1 ++ c1) (by simp; omega)) (by with_reducible repeat constructor) fun x58 hx58 => ?_))))
     dsimp only [List.cons_append, List.nil_append]
     refine trl_nil ?_
     rw [show decide ((1 : Int) % 2 = 1) = true from rfl]
     refine tr_exit rfl (tr_region (tmv rfl (tnc rfl (trl_pv (pv_fieldAddr runUnderlying184 rfl sizeOf3 rfl rfl) (trl_val (rv_load_ns isAgg3 rfl (by with_reducible repeat constructor) hs hp hj hnd3 rfl) ?_)))))
     refine tas rfl (trl_nil (tr_keep (ks := [1,3,8,13,14,15]) (.cons rfl (.cons rfl (.cons rfl (.cons rfl (.cons rfl (.cons rfl .nil)))))) fun base => ?_))
     refine tr_inBlock (tr_region (trl_pv (pv_addI rfl rfl (by omega) (by omega)) ?_))
     refine tmv rfl (trl_nil ?_)
     have he : encNode nd low bound = ((c1 ++ [true]), (⟨nd2.n, nd2.low, true⟩ : Nd)) := by rw [hE, enc_one hfu g34 (by simpa using h1) (of_decide_eq_true h2)]; try simp
     refine tr_again ih0 (j + 1, T1.set (offs sh i + jj) (⟨nd2.n, nd2.low, true⟩ : Nd), ((⟨nd2.n, nd2.low, true⟩ : Nd)).low, b1 ++ (c1 ++ [true])) (by first | omega | (dsimp only; omega)) (.cons rfl (.cons rfl (.cons (keep_v rfl rfl) (.cons rfl (.cons rfl (.cons (keep_int rfl (by dsimp only; omega)) .nil)))))) (by dsimp only; (try rw [List.set_set]); simp only [← List.append_assoc]; exact holds_pure ⟨by omega, by simp [hT1], by first | exact hlo2 | omega, by rw [hB, way_step hf hnd he]; simp [List.append_assoc]⟩ (holds_of_picks (by with_reducible repeat constructor)))
    ·replace h2 : decide (nd2.n ≤ nd2.low) = false := h2
     rw [h2] at hnd3 ⊢
     have hsd : nd2.said = false := by simpa using h1
     refine tr_skip (tr_seq (tr_region (tmv rfl (trl_eff (ef_call rfl rfl call71 (wp_bit (bs := bs ++ b1 ++ c1) (by simp; omega)) (by with_reducible repeat constructor) fun x60 hx60 => ?_)))))
     dsimp only [List.cons_append, List.nil_append]
     refine trl_nil ?_
     rw [show decide ((0 : Int) % 2 = 1) = false from rfl]
     refine tr_region (tmv rfl (tnc rfl (trl_pv (pv_fieldAddr runUnderlying184 rfl sizeOf3 rfl rfl) (trl_val (rv_load_ns isAgg3 rfl (by with_reducible repeat constructor) hs hp hj hnd3 rfl) ?_))))
     refine trl_pv (pv_addI rfl rfl (by dsimp only; omega) (by dsimp only; omega)) ?_
     refine tnc rfl (trl_pv (pv_fieldAddr runUnderlying184 rfl sizeOf3 rfl rfl) (trl_eff0 (ef_store_ns sizeOf3 rfl rfl rfl (by with_reducible repeat constructor) (⟨nd2.n, nd2.low + 1, false⟩) hs hp hj hnd3 (by decide) rfl ?_)))
     refine trl_nil (tr_keep (ks := [1,3,10,13,14,15]) (.cons rfl (.cons rfl (.cons rfl (.cons rfl (.cons rfl (.cons rfl .nil)))))) fun base => ?_)
     refine tr_inBlock (tr_again ih1 (⟨nd2.n, nd2.low + 1, false⟩, c1 ++ [false], f - 1) (by first | omega | (dsimp only; omega)) (.cons rfl (.cons rfl (.cons rfl (.cons rfl (.cons rfl (.cons rfl .nil)))))) (by rw [List.set_set]; simp only [← List.append_assoc]; exact holds_pure ⟨by first | omega | (dsimp only; omega), by first | omega | (dsimp only; omega), by rw [hE, enc_zero hfu g34 hsd (of_decide_eq_false h2), hsd]; simp⟩ (holds_of_picks (by with_reducible repeat constructor))))
   ·refine tr_exit rfl (tr_region (tmv rfl (tnc rfl (trl_pv (pv_fieldAddr runUnderlying184 rfl sizeOf3 rfl rfl) (trl_val (rv_load_ns isAgg3 rfl (by with_reducible repeat constructor) hs hp hj hnd2 rfl) ?_)))))
    refine tas rfl (trl_nil (tr_inBlock (tr_region (trl_pv (pv_addI rfl rfl (by omega) (by omega)) ?_))))
    refine tmv rfl (trl_nil (tr_keep (ks := [1,3,8,13,14,15]) (.cons rfl (.cons rfl (.cons rfl (.cons rfl (.cons rfl (.cons rfl .nil)))))) fun base => ?_))
    have he : encNode nd low bound = (c1, nd2) := by rw [hE, enc_stop hfu (.inr (by simpa using h1))]; try simp
    refine tr_again ih0 (j + 1, T1.set (offs sh i + jj) nd2, (nd2).low, b1 ++ c1) (by first | omega | (dsimp only; omega)) (.cons rfl (.cons rfl (.cons (keep_v rfl rfl) (.cons rfl (.cons rfl (.cons (keep_int rfl (by dsimp only; omega)) .nil)))))) (by dsimp only; (try rw [List.set_set]); simp only [← List.append_assoc]; exact holds_pure ⟨by omega, by simp [hT1], by first | exact hlo2 | omega, by rw [hB, way_step hf hnd he]; simp [List.append_assoc]⟩ (holds_of_picks (by with_reducible repeat constructor)))
  ·refine trl_not rfl (decide_eq_false g34) ?_
   refine trl_not rfl (decide_eq_false g34) ?_
   refine trl_not rfl (decide_eq_false g34) ?_
   refine trl_not rfl (decide_eq_false g34) ?_
   refine trl_not rfl (decide_eq_false g34) ?_
   refine trl_pv (pv_pick_f rfl (decide_eq_false g34) rfl) (trl_nil (tr_keep (ks := [1,3,10,13,14,15,40]) (.cons rfl (.cons rfl (.cons rfl (.cons rfl (.cons rfl (.cons rfl (.cons rfl .nil))))))) fun base => ?_))
   refine tr_else rfl rfl ?_
   refine tr_exit rfl (tr_region (tmv rfl (tnc rfl (trl_pv (pv_fieldAddr runUnderlying184 rfl sizeOf3 rfl rfl) (trl_val (rv_load_ns isAgg3 rfl (by with_reducible repeat constructor) hs hp hj hnd2 rfl) ?_)))))
   refine tas rfl (trl_nil (tr_inBlock (tr_region (trl_pv (pv_addI rfl rfl (by omega) (by omega)) ?_))))
   refine tmv rfl (trl_nil (tr_keep (ks := [1,3,8,13,14,15]) (.cons rfl (.cons rfl (.cons rfl (.cons rfl (.cons rfl (.cons rfl .nil)))))) fun base => ?_))
   have he : encNode nd low bound = (c1, nd2) := by rw [hE, enc_stop hfu (.inl (by omega))]; try simp
   refine tr_again ih0 (j + 1, T1.set (offs sh i + jj) nd2, (nd2).low, b1 ++ c1) (by first | omega | (dsimp only; omega)) (.cons rfl (.cons rfl (.cons (keep_v rfl rfl) (.cons rfl (.cons rfl (.cons (keep_int rfl (by dsimp only; omega)) .nil)))))) (by dsimp only; (try rw [List.set_set]); simp only [← List.append_assoc]; exact holds_pure ⟨by omega, by simp [hT1], by first | exact hlo2 | omega, by rw [hB, way_step hf hnd he]; simp [List.append_assoc]⟩ (holds_of_picks (by with_reducible repeat constructor)))
 ·refine tr_exit rfl ?_
  rw [way_end (by omega)] at hB
  rw [hB]
  simp only [List.append_nil]
  refine Tr.fold (pt_fold (ps := ps) (T := T1) ho hl hT1 rfl rfl) (by with_reducible repeat constructor) ?_
  refine tr_end func73 rfl .nil (by kernel_rfl) .nil () rfl trivial (holds_of_picks (by with_reducible repeat constructor))
end Go.Proofs
