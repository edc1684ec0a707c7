/- Contracts of functions that the law reaches, in every memory (part W1). -/
import Derived.Test.YtbmfgngjcpmjeaaGreatQ12
set_option linter.unusedVariables false
set_option linter.unusedSimpArgs false
set_option maxRecDepth 10000
namespace Go.Proofs
open Go.Eng Tryz
def ro (W : World) : SL := fun m => m = mem W
theorem ro_heap {W : World} {L : List SL} {F : Fm} {w : World} (h : Holds (ro W :: L) F w) {r : Nat} {x : Obj} (hx : W.heap[r]? = some x) : w.heap[r]? = some x := by
  obtain ⟨_, m, hs, a, b, hd, rfl, hA, hB⟩ := h
  obtain ⟨a1, a2, hd1, rfl, ha1, ha2⟩ := hA
  refine hs r x ?_
  rw [show a1 = mem W from ha1]
  unfold cup mem
  rw [hx]
theorem rd_ro {W : World} {L M : List SL} {r o : Nat} {v : Value} (hp : Pick (ro W) L M) (hc : W.cell? ⟨r, o, none⟩ = some v) : Rd L r o v := by
  intro F w hw
  have h := hw.perm hp.perm
  cases hb : W.heap[r]? with
  | none => rw [World.cell?] at hc; simp [hb] at hc
  | some x =>
    rw [← hc]
    simp [World.cell?, ro_heap h hb, hb]
def RV (v : Value) (n p o : Nat) : Prop := ∃ a cap, v = .slice a n cap ∧ (n = 0 ∨ a = some ⟨p, o, none⟩)
section
variable {P : Program} {ty t t' : TypeId} {l : List (Nat × Value)} {base : Env} {L M : List SL} {x y : Operand} {k : IntKind}
theorem pv_len_r {T e n p o : Nat} {v : Value} (hU : ∀ w, (underlying T).run P w = .ok (.slice e) w) (hx : evO l x = some v) (hv : RV v n p o) :
    PureV P (.call ⟨.builtin .len, #[x], #[T]⟩) ty (Eng.look l base) (.int .i64 n) := by
  obtain ⟨a, cap, rfl, _⟩ := hv
  exact pv_len hU hx
theorem pv_indexAddr_r {T e sz n p o : Nat} {v : Value} {i : Int} (hU : ∀ w, (underlying T).run P w = .ok (.slice e) w) (hz : ∀ w, (sizeOf e).run P w = .ok sz w)
    (hx : evO l x = some v) (hy : evO l y = some (.int k i)) (hv : RV v n p o) (h0 : 0 ≤ i) (h1 : i < n) : PureV P (.indexAddr T x y) ty (Eng.look l base) (.pointer (some ⟨p, o + i.toNat * sz, none⟩)) := by
  obtain ⟨a, cap, rfl, h⟩ := hv
  rcases h with h | rfl
  · omega
  · exact pv_indexAddr hU hz hx hy h0 h1
end
theorem cells3 {pl : Int} {pv bv : Value} (h1 : one? pv = true) (h2 : one? bv = true) : cellsL (.agg #[.int .i64 pl, pv, bv]) = [.int .i64 pl, pv, bv] := rfl
theorem emod_tmod {z n : Int} (hn : 0 < n) : z % n = if z.tmod n < 0 then z.tmod n + n else z.tmod n := by
  by_cases hz : 0 ≤ z
  · rw [Int.tmod_eq_emod_of_nonneg hz, if_neg (by have := Int.emod_nonneg z (show n ≠ 0 by omega); omega)]
  · have h1 := Int.emod_nonneg z (show n ≠ 0 by omega)
    have h2 := Int.emod_lt_of_pos z hn
    have h3 := Int.tmod_eq_emod (a := z) (b := n)
    by_cases hd : n ∣ z
    · have : z % n = 0 := Int.emod_eq_zero_of_dvd hd
      rw [if_pos (.inr hd)] at h3
      rw [h3, this]; simp
    · rw [if_neg (by rintro (h | h); exact hz h; exact hd h)] at h3
      have h4 : (n.natAbs : Int) = n := by omega
      rw [h3, h4, if_pos (by omega)]; omega
theorem tmod_ok {z n : Int} (hn : 0 < n) : -n ≤ z.tmod n ∧ z.tmod n < n := by
  have h1 := Int.emod_nonneg z (show n ≠ 0 by omega)
  have h2 := Int.emod_lt_of_pos z hn
  have h3 := emod_tmod (z := z) hn
  split at h3 <;> omega
theorem k_within {z n : Int} (hn : 0 < n) (hn2 : n < 4611686018427387904) : Spec Tryz.prog 8 [.int .i64 z, .int .i64 n] [] (fun _ : Unit => ⟨.int .i64 (z % n), True, []⟩) := by
 refine spec_of_tr func8 rfl ntmps8 (by kernel_rfl) ?_
 have ht := tmod_ok (z := z) hn
 refine tr_seq (tr_region (tas rfl (trl_nil (tr_seq (tr_region (tmv rfl (tmv rfl (trl_pv (pv_rem rfl rfl (by omega)) ?_))))))))
 refine tas rfl (trl_nil (tr_seq (tr_seq (tr_region (tmv rfl (trl_pv (pv_lss rfl rfl) (trl_nil (tr_if rfl (fun h0 => ?_) (fun h0 => ?_)))))))))
 ·refine tr_region (tmv rfl (tmv rfl (trl_pv (pv_addI rfl rfl (by omega) (by omega)) ?_)))
  refine tas rfl (trl_nil (tr_keep (ks := [5]) (.cons rfl .nil) fun base => ?_))
  refine tr_seq (tr_region (tmv rfl (tas rfl (trl_nil (tr_ret func8 rfl .nil (by kernel_rfl) (.tmp rfl .nil) () (by rw [emod_tmod hn, if_pos h0]; rfl) trivial (holds_of_picks (by with_reducible repeat constructor)))))))
 ·refine tr_skip (tr_seq (tr_region (tmv rfl (tas rfl (trl_nil (tr_keep (ks := [4]) (.cons rfl .nil) fun base => ?_))))))
  refine tr_ret func8 rfl .nil (by kernel_rfl) (.tmp rfl .nil) () (by rw [emod_tmod hn, if_neg h0]; rfl) trivial (holds_of_picks (by with_reducible repeat constructor))
theorem k_within8 {z n : Int} (hn : 0 < n) (hn2 : n < 4611686018427387904) : Spec Tryz.prog 65 [.int .i64 z, .int .i64 n] [] (fun _ : Unit => ⟨.int .i64 (z % n), True, []⟩) := by
 refine spec_of_tr func65 rfl ntmps65 (by kernel_rfl) ?_
 have ht := tmod_ok (z := z) hn
 refine tr_seq (tr_region (tas rfl (trl_nil (tr_seq (tr_region (tmv rfl (tmv rfl (trl_pv (pv_rem rfl rfl (by omega)) ?_))))))))
 refine tas rfl (trl_nil (tr_seq (tr_seq (tr_region (tmv rfl (trl_pv (pv_lss rfl rfl) (trl_nil (tr_if rfl (fun h0 => ?_) (fun h0 => ?_)))))))))
 ·refine tr_region (tmv rfl (tmv rfl (trl_pv (pv_addI rfl rfl (by omega) (by omega)) ?_)))
  refine tas rfl (trl_nil (tr_keep (ks := [5]) (.cons rfl .nil) fun base => ?_))
  refine tr_seq (tr_region (tmv rfl (tas rfl (trl_nil (tr_ret func65 rfl .nil (by kernel_rfl) (.tmp rfl .nil) () (by rw [emod_tmod hn, if_pos h0]; rfl) trivial (holds_of_picks (by with_reducible repeat constructor)))))))
 ·refine tr_skip (tr_seq (tr_region (tmv rfl (tas rfl (trl_nil (tr_keep (ks := [4]) (.cons rfl .nil) fun base => ?_))))))
  refine tr_ret func65 rfl .nil (by kernel_rfl) (.tmp rfl .nil) () (by rw [emod_tmod hn, if_neg h0]; rfl) trivial (holds_of_picks (by with_reducible repeat constructor))
theorem k_few {v : Value} {n p o : Nat} (hv : RV v n p o) : Spec Tryz.prog 7 [v] [] (fun _ : Unit => ⟨.bool (decide ((n : Int) ≤ 3)), True, []⟩) := by
 refine spec_of_tr func7 rfl ntmps7 (by kernel_rfl) ?_
 refine tr_seq (tr_region (tas rfl (trl_nil (tr_seq (tr_region (tmv rfl (trl_pv (pv_len_r runUnderlying22 rfl hv) (trl_pv (pv_leq rfl rfl) (tas rfl (trl_nil (tr_ret func7 rfl .nil (by kernel_rfl) (.tmp rfl .nil) () rfl trivial (holds_of_picks (by with_reducible repeat constructor)))))))))))))
theorem k_of {pl : Int} {pv bv : Value} {ps : List (Int × Bool)} (hl : ps.length ≤ 1000) (hpv : one? pv = true) (hbv : one? bv = true) : Spec Tryz.prog 20 [.agg #[.int .i64 pl, pv, bv]] [Sl 90 2 ps.length pv (passC ps)]
    (fun v : Value => ⟨.agg #[.int .i64 pl, v, bv], one? v = true, [Sl 90 2 ps.length pv (passC ps), Sl 142 2 ps.length v (passC ps)]⟩) := by
 refine spec_of_tr func20 rfl ntmps20 (by kernel_rfl) ?_
 refine tr_seq (tr_region (trl_eff (ef_box rfl (cells3 hpv hbv) fun r1 => ?_)))
 refine trl_eff (ef_alloc zeroValue58 (by dsimp only [cellsL, List.toList_toArray]) fun r2 => ?_)
 refine trl_nil (tr_seq (tr_region (trl_pv (pv_fieldAddr runUnderlying51 rfl sizeOf3 rfl rfl) (trl_val (rv_load isAgg3 rfl (by with_reducible repeat constructor) rfl) ?_))))
 refine trl_pv (pv_fieldAddr runUnderlying51 rfl sizeOf30 rfl rfl) (trl_val (rv_load isAgg30 rfl (by with_reducible repeat constructor) rfl) ?_)
 refine trl_pv (pv_build (pl := [(0, 1), (1, 1), (2, 1)]) runUnderlying58 zeroValue58 (fun w => by simp [sizeOf3, sizeOf30, sizeOf56]) (by dsimp only [cellsL, List.toList_toArray]) rfl (show buildC _ _ _ = some [.int .i64 pl, .slice none 0 0, bv] from by simp [buildC, setC, cellsL_one hbv, show cellsL (Value.int .i64 pl) = [.int .i64 pl] from rfl, putFrom, putL])) ?_
 refine trl_eff (ef_alloc zeroValue58 (by dsimp only [cellsL, List.toList_toArray]) fun r3 => ?_)
 refine trl_eff0 (ef_store_agg sizeOf58 rfl rfl (by simp only [List.all_cons, List.all_nil, hbv, one_int, one_slice]; rfl) (by with_reducible repeat constructor) rfl ?_)
 refine trl_nil (tr_seq (tr_seq (tr_region (tas rfl (trl_nil ?_)))))
 refine tr_empty 142 2 none ?_
 refine tr_block (tr_while (α := Nat × Value) ((0, .slice none 0 0)) (fun z => ps.length - z.1) (fun z => [(1, .pointer (some ⟨r1, 0, none⟩)), (2, .pointer (some ⟨r2, 0, none⟩)), (3, .pointer (some ⟨r3, 0, none⟩)), (4, .int .i64 ((z.1 : Nat) : Int))]) (fun z => [pure' (z.1 ≤ ps.length ∧ one? z.2 = true), pt r1 51 [.int .i64 pl, pv, bv], pt r2 58 [.int .i64 0, .slice none 0 0, .slice none 0 0], pt r3 58 [.int .i64 pl, z.2, bv], Sl 90 2 ps.length pv (passC ps), Sl 142 2 z.1 z.2 (passC (ps.take z.1))]) (ks := [1,2,3,4]) (.cons rfl (.cons rfl (.cons rfl (.cons rfl .nil)))) (by dsimp only; rw [List.take_zero, show passC [] = [] from rfl]; exact holds_pure ⟨Nat.zero_le _, rfl⟩ (holds_of_picks (by with_reducible repeat constructor))) ?_)
 intro ⟨i, v⟩ base ih0
 refine Tr.pure fun ⟨hi, hv⟩ => ?_
 dsimp only at hi hv ⊢
 refine tr_seq (tr_seq (tr_region (tmv rfl (trl_pv (pv_fieldAddr runUnderlying51 rfl sizeOf49 rfl rfl) (trl_val (rv_load isAgg49 rfl (by with_reducible repeat constructor) rfl) ?_)))))
 refine trl_val (rv_len_sl runUnderlying49 rfl (by with_reducible repeat constructor)) ?_
 refine trl_pv (pv_lss rfl rfl) (trl_nil (tr_if rfl (fun h0 => ?_) (fun h0 => ?_)))
 ·refine tr_skip (tr_seq (tr_block ?_))
  obtain ⟨x, hx⟩ := get_some (l := ps) (i := i) (by omega)
  refine tr_draww (rem := [0,1,2,3,4,5,6,7,8,9,10,11,12,13,14,15,16,17,18]) (by kernel_rfl) (by kernel_rfl) rfl ?_
  refine trw_pure 0 [1,16,17,18] rfl (by kernel_rfl) rfl (pv_fieldAddr runUnderlying58 rfl sizeOf56 rfl rfl) (trw_pure 2 [3,5,6,7,14,15,16,17,18] rfl (by kernel_rfl) rfl (pv_fieldAddr runUnderlying51 rfl sizeOf49 rfl rfl) (twm 4 [5,6,7,14,15,16,17,18] rfl (by kernel_rfl) rfl rfl (trw_pure 8 [9,11,12,13,14,15,16,17,18] rfl (by kernel_rfl) rfl (pv_fieldAddr runUnderlying51 rfl sizeOf49 rfl rfl) (twm 10 [11,12,13,14,15,16,17,18] rfl (by kernel_rfl) rfl rfl (trw_read 1 [16,17,18] rfl (by kernel_rfl) rfl (rv_load isAgg56 rfl (by with_reducible repeat constructor) rfl) ?_)))))
  refine trw_read 3 [5,6,7,14,15,16,17,18] rfl (by kernel_rfl) rfl (rv_load isAgg49 rfl (by with_reducible repeat constructor) rfl) ?_
  refine trw_read 5 [6,7,14,15,16,17,18] rfl (by kernel_rfl) rfl (rv_indexAddr_sl runUnderlying49 sizeOf90 rfl rfl (by with_reducible repeat constructor) (by omega) (by omega)) ?_
  refine trw_pure 6 [7,14,15,16,17,18] rfl (by kernel_rfl) rfl (pv_fieldAddr runUnderlying90 rfl sizeOf3 rfl rfl) (trw_read 7 [14,15,16,17,18] rfl (by kernel_rfl) rfl (rv_load_sl isAgg3 rfl (by with_reducible repeat constructor) (show (passC ps)[((i : Nat) : Int).toNat * 2 + 0]? = some (.int .i64 x.1) from pc_part (i := i) hx 0 (by decide))) ?_)
  refine trw_read 9 [11,12,13,14,15,16,17,18] rfl (by kernel_rfl) rfl (rv_load isAgg49 rfl (by with_reducible repeat constructor) rfl) ?_
  refine trw_read 11 [12,13,14,15,16,17,18] rfl (by kernel_rfl) rfl (rv_indexAddr_sl runUnderlying49 sizeOf90 rfl rfl (by with_reducible repeat constructor) (by omega) (by omega)) ?_
  refine trw_pure 12 [13,14,15,16,17,18] rfl (by kernel_rfl) rfl (pv_fieldAddr runUnderlying90 rfl sizeOf4 rfl rfl) (trw_read 13 [14,15,16,17,18] rfl (by kernel_rfl) rfl (rv_load_sl isAgg4 rfl (by with_reducible repeat constructor) (show (passC ps)[((i : Nat) : Int).toNat * 2 + 1]? = some (.bool x.2) from pc_part (i := i) hx 1 (by decide))) ?_)
  refine trw_pure 14 [15,16,17,18] rfl (by kernel_rfl) rfl (pv_build (pl := [(0, 1), (1, 1)]) runUnderlying142 zeroValue142 (fun w => by simp [sizeOf3, sizeOf4]) (by dsimp only [cellsL, List.toList_toArray]) rfl rfl) ?_
  refine trw_one 15 (by kernel_rfl) ?_
  refine trwat_eff rfl rfl rfl (ef_buildSlice runUnderlying56 sizeOf142 zeroValue142 rfl rfl rfl rfl rfl (by dsimp only [flatC, cellsL, List.toList_toArray, List.cons_append, List.nil_append, List.append_nil]) fun r32 => ?_)
  refine ⟨?_, (rv_load isAgg56 rfl (by with_reducible repeat constructor) rfl), trivial⟩
  refine trw_one 16 (by kernel_rfl) ?_
  refine trwat_eff rfl rfl rfl (ef_append runUnderlying56 runUnderlying56 typeInfo142 sizeOf142 zeroValue142 rfl rfl rfl (by with_reducible repeat constructor) (reads_pt (by with_reducible repeat constructor) rfl) rfl (by simp [one?]) (by rw [show Tryz.t142.bytes = 16 from rfl]; omega) fun v33 ho33 => ?_)
  refine ⟨?_, trivial⟩
  refine trw_pure 17 [18] rfl (by kernel_rfl) rfl (pv_fieldAddr runUnderlying58 rfl sizeOf56 rfl rfl) (trw_one 18 (by kernel_rfl) ?_)
  refine trwat_eff0 rfl rfl rfl (ef_store sizeOf56 rfl rfl (by first | rfl | assumption) (by with_reducible repeat constructor) rfl ?_)
  refine ⟨?_, trivial⟩
  refine trw_nil ?_
  rw [passC_snoc, show (ps.take i ++ [(x.1, x.2)]) = ps.take (i + 1) from by rw [List.take_add_one, hx]; rfl]
  refine tr_keep (ks := [1,2,3,4]) (.cons rfl (.cons rfl (.cons rfl (.cons rfl .nil)))) fun base => ?_
  refine tr_inBlock (tr_region (tmv rfl (trl_pv (pv_addI rfl rfl (by omega) (by omega)) ?_)))
  refine tas rfl (trl_nil (tr_again ih0 (i + 1, v33) (by first | omega | (dsimp only; omega)) (.cons rfl (.cons rfl (.cons rfl (.cons rfl .nil)))) (holds_pure ⟨by dsimp only; omega, ho33⟩ (holds_of_picks (by with_reducible repeat constructor)))))
 ·refine tr_exit rfl (tr_seq ?_)
  obtain rfl : i = ps.length := by omega
  rw [List.take_length]
  refine tr_region (trl_val (rv_load_agg isAgg58 sizeOf58 rfl (by with_reducible repeat constructor) rfl) ?_)
  refine trl_eff0 (ef_store_agg sizeOf58 rfl rfl (by simp only [List.all_cons, List.all_nil, hbv, hv, one_int]; rfl) (by with_reducible repeat constructor) rfl ?_)
  refine trl_nil (tr_keep (ks := [2]) (.cons rfl .nil) fun base => ?_)
  refine tr_ret func20 rfl .nil (by kernel_rfl) (.cell rfl (loadVar_agg isAgg58 sizeOf58 (by with_reducible repeat constructor) rfl) .nil) v rfl hv (holds_of_picks (by with_reducible repeat constructor))
end Go.Proofs
