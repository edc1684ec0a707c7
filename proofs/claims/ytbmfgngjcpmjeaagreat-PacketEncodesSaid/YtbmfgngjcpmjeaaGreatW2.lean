/- Contracts of functions that the law reaches, in every memory (part W2). -/
import Derived.Test.YtbmfgngjcpmjeaaGreatW1
import Derived.Test.YtbmfgngjcpmjeaaGreatPlainD
set_option linter.unusedVariables false
set_option linter.unusedSimpArgs false
set_option maxRecDepth 10000
namespace Go.Proofs
open Go.Eng Tryz
def RI (W : World) (v : Value) (ns : List Int) : Prop := ∃ p o, RV v ns.length p o ∧ ∀ i x, ns[i]? = some x → W.cell? ⟨p, o + i, none⟩ = some (.int .i64 x) ∧ -9223372036854775808 ≤ x ∧ x ≤ 9223372036854775807
theorem pow_ok {p : Nat} (h : p ≤ 30) : 1 ≤ (2 : Int) ^ p ∧ (2 : Int) ^ p ≤ 1073741824 := by
  have h1 := Nat.pow_le_pow_right (show 0 < 2 by omega) h
  have h2 : ((2 ^ p : Nat) : Int) ≤ ((2 ^ 30 : Nat) : Int) := Int.ofNat_le.2 h1
  have h3 : (0 : Int) < 2 ^ p := Int.pow_pos (by omega)
  have h4 : ((2 ^ p : Nat) : Int) = (2 : Int) ^ p := by simp
  have h5 : ((2 ^ 30 : Nat) : Int) = 1073741824 := by decide
  omega
theorem k_values {W : World} {w h pl : Nat} {nv : Value} {ns : List Int} (hw : w ≤ 64) (hh : h ≤ 64) (hpl : pl ≤ 30) (hR : RI W nv ns) : Spec Tryz.prog 18 [.int .i64 (w : Nat), .int .i64 (h : Nat), .int .i64 (pl : Nat), nv] [ro W]
    (fun v : Value => ⟨v, one? v = true, [ro W, Sl 3 1 (w * h) v (i64s (valsF pl ns (w * h)))]⟩) := by
 refine spec_of_tr func18 rfl ntmps18 (by kernel_rfl) ?_
 have hm : w * h ≤ 64 * 64 := Nat.mul_le_mul hw hh
 obtain ⟨p, o, hRV, hcl⟩ := hR
 refine tr_seq (tr_region (tas rfl (trl_nil (tr_seq (tr_region (tmv rfl (tmv rfl (trl_pv (pv_conv (pv_mulI rfl rfl (by omega) (by omega)) (congrArg (Value.int .i64) (show (w : Int) * (h : Int) = ((w * h : Nat) : Int) from by simp))) ?_))))))))
 refine trl_eff (ef_make (w * h) runUnderlying38 typeInfo3 sizeOf3 zeroValue3 rfl (by dsimp only [cellsL, List.toList_toArray]) rfl rfl (by simp) (by rw [show Tryz.t3.bytes = 8 from rfl]; omega) fun r17 => ?_)
 refine tas rfl (trl_nil ?_)
 rw [zeros_i]
 refine Tr.fold (sl_of_pt (e := 3) (sz := 1) (n := w * h) (cells := i64s (List.replicate (w * h) 0)) (by simp [i64s])) (by with_reducible repeat constructor) ?_
 have hone : one? (.slice (some ⟨r17, 0, none⟩) (w * h) (w * h)) = true := rfl
 generalize Value.slice (some ⟨r17, 0, none⟩) (w * h) (w * h) = v at hone ⊢
 refine tr_keep (ks := [2,3,9]) (.cons rfl (.cons rfl (.cons rfl .nil))) fun base => ?_
 refine tr_seq (tr_seq (tr_region (tas rfl (trl_nil (tr_block (tr_while (α := Nat) (0) (fun i => w * h - i) (fun i => [(2, .int .i64 (pl : Nat)), (3, nv), (9, v), (10, .int .i64 ((i : Nat) : Int))]) (fun i => [pure' (i ≤ w * h ∧ (ns.length = 0 → i = 0)), ro W, Sl 3 1 (w * h) v (i64s (valsAt pl ns (w * h) i))]) (ks := [2,3,9,10]) (.cons rfl (.cons rfl (.cons rfl (.cons rfl .nil)))) (by rw [vals_zero]; exact holds_pure ⟨Nat.zero_le _, fun _ => rfl⟩ (holds_of_picks (by with_reducible repeat constructor))) ?_))))))
 intro i base ih0
 refine Tr.pure fun ⟨hi, hz0⟩ => ?_
 refine tr_seq (tr_seq (tr_region (tmv rfl (tmv rfl (trl_val (rv_len_sl runUnderlying38 rfl (by with_reducible repeat constructor)) ?_)))))
 refine trl_pv (pv_lss rfl rfl) (tmv rfl (trl_split 4 rfl (fun g22 => ?_) (fun g22 => ?_)))
 ·refine trl_pvg rfl (decide_eq_true g22) (pv_move rfl) (trl_pvg rfl (decide_eq_true g22) (pv_len_r runUnderlying38 rfl hRV) (trl_pvg rfl (decide_eq_true g22) (pv_gtr rfl rfl) (trl_pv (pv_pick_t rfl (decide_eq_true g22) rfl) (trl_nil (tr_keep (ks := [2,3,9,10,26]) (.cons rfl (.cons rfl (.cons rfl (.cons rfl (.cons rfl .nil))))) fun base => ?_)))))
  refine tr_if rfl (fun h0 => ?_) (fun h0 => ?_)
  ·refine tr_skip (tr_seq (tr_block (tr_seq ?_)))
   have hlt : i < w * h := by omega
   have hn0 : 0 < ns.length := by omega
   have hmod : i % ns.length < ns.length := Nat.mod_lt _ hn0
   obtain ⟨x, hx⟩ := get_some (l := ns) (i := i % ns.length) hmod
   obtain ⟨hcell, hx1, hx2⟩ := hcl _ _ hx
   have hxd : ns.getD (i % ns.length) 0 = x := by rw [List.getD_eq_getElem?_getD, hx]; rfl
   have ht7 := tdiv_eq (x := x) (c := 7) (by decide)
   have ht64 := tdiv_eq (x := x) (c := 64) (by decide)
   have hsz := sizeOfV_le pl x
   have hp2 := pow_ok (p := sizeOfV pl x) (by omega)
   have hdl := Nat.div_le_self i ns.length
   refine tr_region (tmv rfl (tmv rfl (tmv rfl (trl_pv (pv_len_r runUnderlying38 rfl hRV) (trl_pv (pv_conv (pv_remI rfl rfl (by omega) (by omega)) (congrArg (Value.int .i64) (show (i : Int) % (ns.length : Int) = ((i % ns.length : Nat) : Int) from by simp))) ?_)))))
   refine trl_pv (pv_indexAddr_r runUnderlying38 sizeOf3 rfl rfl hRV (Int.natCast_nonneg _) (Int.ofNat_lt.2 hmod)) (trl_val (rv_load_rd isAgg3 rfl (rd_ro (by with_reducible repeat constructor) (show W.cell? ⟨p, o + ((i % ns.length : Nat) : Int).toNat * 1, none⟩ = some (.int .i64 x) from by rw [Int.toNat_natCast, Nat.mul_one]; exact hcell))) ?_)
   refine tas rfl (trl_nil (tr_keep (ks := [2,3,9,10,11]) (.cons rfl (.cons rfl (.cons rfl (.cons rfl (.cons rfl .nil))))) fun base => ?_))
   refine tr_seq (tr_region (tmv rfl (trl_pv (pv_conv (pv_quo rfl rfl (by decide)) (congrArg (Value.int .i64) (show IntKind.i64.wrap (x.tdiv 7) = x.tdiv 7 from wrap64_id (by rw [ht7]; split <;> omega) (by rw [ht7]; split <;> omega)))) ?_)))
   refine tmv rfl (trl_pv (pv_addI rfl rfl (by omega) (by omega)) ?_)
   refine trl_eff (ef_call rfl rfl call65 (k_within8 (z := x.tdiv 7) (n := (pl : Int) + 1) (by omega) (by omega)) (by with_reducible repeat constructor) fun x40 hx40 => ?_)
   dsimp only [List.cons_append, List.nil_append]
   refine trl_pv (pv_conv (pv_assign rfl) (congrArg (Value.int .i64) (show x.tdiv 7 % ((pl : Int) + 1) = ((sizeOfV pl x : Nat) : Int) from hsz.2.symm))) (trl_nil (tr_seq (tr_region (tmv rfl (trl_pv (pv_conv (pv_quo rfl rfl (by decide)) (congrArg (Value.int .i64) (show IntKind.i64.wrap (x.tdiv 64) = x.tdiv 64 from wrap64_id (by rw [ht64]; split <;> omega) (by rw [ht64]; split <;> omega)))) ?_)))))
   refine tmv rfl (trl_pv (pv_addI rfl rfl (by rw [ht64]; split <;> omega) (by rw [ht64]; split <;> omega)) ?_)
   refine tmv rfl (trl_pv (pv_conv (pv_convert runUnderlying3 runUnderlying104 rfl) (congrArg (Value.int .u64) (wrapu64_id (by omega) (by omega)))) ?_)
   refine trl_pv (pv_conv (pv_shlI rfl rfl (by omega) (by omega) (by show _ ≤ 1 * (2 : Int) ^ sizeOfV pl x; omega) (by show 1 * (2 : Int) ^ sizeOfV pl x ≤ _; omega)) (congrArg (Value.int .i64) (show 1 * (2 : Int) ^ ((sizeOfV pl x : Nat) : Int).toNat = (2 : Int) ^ sizeOfV pl x from Int.one_mul _))) ?_
   refine trl_eff (ef_call rfl rfl call65 (k_within8 (z := x.tdiv 64 + i) (n := (2 : Int) ^ sizeOfV pl x) (by omega) (by omega)) (by with_reducible repeat constructor) fun x48 hx48 => ?_)
   dsimp only [List.cons_append, List.nil_append]
   refine tas rfl (trl_nil (tr_keep (ks := [2,3,9,10,11,13]) (.cons rfl (.cons rfl (.cons rfl (.cons rfl (.cons rfl (.cons rfl .nil)))))) fun base => ?_))
   refine tr_seq (tr_region (tmv rfl (tmv rfl (tmv rfl (trl_pv (pv_len_r runUnderlying38 rfl hRV) (trl_pv (pv_conv (pv_quoI rfl rfl (by omega) (by omega) (by omega)) (congrArg (Value.int .i64) (show (i : Int) / (ns.length : Int) = ((i / ns.length : Nat) : Int) from by simp))) ?_))))))
   refine trl_pv (pv_add rfl rfl) (trl_eff (ef_call rfl rfl call65 (k_within8 (z := wI (x + ((i / ns.length : Nat) : Int))) (n := 5) (by decide) (by decide)) (by with_reducible repeat constructor) fun x55 hx55 => ?_))
   dsimp only [List.cons_append, List.nil_append]
   refine trl_nil (tr_keep (ks := [2,3,9,10,13,55]) (.cons rfl (.cons rfl (.cons rfl (.cons rfl (.cons rfl (.cons rfl .nil)))))) fun base => ?_)
   refine tr_block (tr_seq (tr_seq ?_))
   have hS : sayOfV x i ns.length = wI (x + ((i / ns.length : Nat) : Int)) % 5 := rfl
   have hM : magOfV pl x i = (x.tdiv 64 + i) % 2 ^ sizeOfV pl x := rfl
   have hmo := magOfV_ok pl x i
   have hpo := pow_ok hpl
   refine tr_region (trl_pv (pv_eql rfl rfl) (tas rfl (trl_nil (tr_if rfl (fun h1 => ?_) (fun h1 => ?_)))))
   ·refine tr_skip (tr_then rfl (decide_eq_true h1) ?_)
    have hval : valOf pl ns i = (x.tdiv 64 + i) % 2 ^ sizeOfV pl x := by unfold valOf; rw [hxd]; rw [if_pos (by rw [hS]; omega), hM]
    refine tr_region (tmv rfl (tmv rfl (tmv rfl (trl_val (rv_indexAddr_sl runUnderlying38 sizeOf3 rfl rfl (by with_reducible repeat constructor) (by omega) (by omega)) ?_))))
    refine trl_eff0 (ef_store_sl sizeOf3 rfl rfl (by first | rfl | assumption) (by with_reducible repeat constructor) (by unfold i64s; rw [List.length_map, valsAt_length (by omega)]; omega) (by rw [i64s_put, ← hval, vals_put hlt]) ?_)
    refine trl_nil (tr_keep (ks := [2,3,9,10]) (.cons rfl (.cons rfl (.cons rfl (.cons rfl .nil)))) fun base => ?_)
    refine tr_inBlock (tr_inBlock (tr_region (tmv rfl (trl_pv (pv_addI rfl rfl (by omega) (by omega)) ?_))))
    refine tas rfl (trl_nil (tr_again ih0 (i + 1) (by first | omega | (dsimp only; omega)) (.cons rfl (.cons rfl (.cons rfl (.cons rfl .nil)))) (holds_pure ⟨by omega, fun hh => absurd hh (by omega)⟩ (holds_of_picks (by with_reducible repeat constructor)))))
   ·refine tr_region (trl_pv (pv_eql rfl rfl) (tas rfl (trl_nil (tr_if rfl (fun h2 => ?_) (fun h2 => ?_)))))
    ·have hval : valOf pl ns i = (x.tdiv 64 + i) % 2 ^ sizeOfV pl x := by unfold valOf; rw [hxd]; rw [if_pos (by rw [hS]; omega), hM]
     refine tr_region (tmv rfl (tmv rfl (tmv rfl (trl_val (rv_indexAddr_sl runUnderlying38 sizeOf3 rfl rfl (by with_reducible repeat constructor) (by omega) (by omega)) ?_))))
     refine trl_eff0 (ef_store_sl sizeOf3 rfl rfl (by first | rfl | assumption) (by with_reducible repeat constructor) (by unfold i64s; rw [List.length_map, valsAt_length (by omega)]; omega) (by rw [i64s_put, ← hval, vals_put hlt]) ?_)
     refine trl_nil (tr_keep (ks := [2,3,9,10]) (.cons rfl (.cons rfl (.cons rfl (.cons rfl .nil)))) fun base => ?_)
     refine tr_inBlock (tr_inBlock (tr_region (tmv rfl (trl_pv (pv_addI rfl rfl (by omega) (by omega)) ?_))))
     refine tas rfl (trl_nil (tr_again ih0 (i + 1) (by first | omega | (dsimp only; omega)) (.cons rfl (.cons rfl (.cons rfl (.cons rfl .nil)))) (holds_pure ⟨by omega, fun hh => absurd hh (by omega)⟩ (holds_of_picks (by with_reducible repeat constructor)))))
    ·refine tr_seq (tr_seq (tr_region (trl_pv (pv_eql rfl rfl) (tas rfl (trl_nil (tr_if rfl (fun h3 => ?_) (fun h3 => ?_)))))))
     ·refine tr_skip (tr_then rfl (decide_eq_true h3) ?_)
      have hval : valOf pl ns i = 0 - (x.tdiv 64 + i) % 2 ^ sizeOfV pl x := by unfold valOf; rw [hxd]; rw [if_neg (by rw [hS]; omega), if_pos (by rw [hS]; omega), hM]
      refine tr_region (tmv rfl (tmv rfl (tmv rfl (trl_pv (pv_subI rfl rfl (by rw [← hM]; omega) (by rw [← hM]; omega)) ?_))))
      refine trl_val (rv_indexAddr_sl runUnderlying38 sizeOf3 rfl rfl (by with_reducible repeat constructor) (by omega) (by omega)) ?_
      refine trl_eff0 (ef_store_sl sizeOf3 rfl rfl (by first | rfl | assumption) (by with_reducible repeat constructor) (by unfold i64s; rw [List.length_map, valsAt_length (by omega)]; omega) (by rw [i64s_put, ← hval, vals_put hlt]) ?_)
      refine trl_nil (tr_keep (ks := [2,3,9,10]) (.cons rfl (.cons rfl (.cons rfl (.cons rfl .nil)))) fun base => ?_)
      refine tr_inBlock (tr_inBlock (tr_region (tmv rfl (trl_pv (pv_addI rfl rfl (by omega) (by omega)) ?_))))
      refine tas rfl (trl_nil (tr_again ih0 (i + 1) (by first | omega | (dsimp only; omega)) (.cons rfl (.cons rfl (.cons rfl (.cons rfl .nil)))) (holds_pure ⟨by omega, fun hh => absurd hh (by omega)⟩ (holds_of_picks (by with_reducible repeat constructor)))))
     ·refine tr_region (trl_pv (pv_eql rfl rfl) (tas rfl (trl_nil (tr_if rfl (fun h4 => ?_) (fun h4 => ?_)))))
      ·have hval : valOf pl ns i = 0 - (x.tdiv 64 + i) % 2 ^ sizeOfV pl x := by unfold valOf; rw [hxd]; rw [if_neg (by rw [hS]; omega), if_pos (by rw [hS]; omega), hM]
       refine tr_region (tmv rfl (tmv rfl (tmv rfl (trl_pv (pv_subI rfl rfl (by rw [← hM]; omega) (by rw [← hM]; omega)) ?_))))
       refine trl_val (rv_indexAddr_sl runUnderlying38 sizeOf3 rfl rfl (by with_reducible repeat constructor) (by omega) (by omega)) ?_
       refine trl_eff0 (ef_store_sl sizeOf3 rfl rfl (by first | rfl | assumption) (by with_reducible repeat constructor) (by unfold i64s; rw [List.length_map, valsAt_length (by omega)]; omega) (by rw [i64s_put, ← hval, vals_put hlt]) ?_)
       refine trl_nil (tr_keep (ks := [2,3,9,10]) (.cons rfl (.cons rfl (.cons rfl (.cons rfl .nil)))) fun base => ?_)
       refine tr_inBlock (tr_inBlock (tr_region (tmv rfl (trl_pv (pv_addI rfl rfl (by omega) (by omega)) ?_))))
       refine tas rfl (trl_nil (tr_again ih0 (i + 1) (by first | omega | (dsimp only; omega)) (.cons rfl (.cons rfl (.cons rfl (.cons rfl .nil)))) (holds_pure ⟨by omega, fun hh => absurd hh (by omega)⟩ (holds_of_picks (by with_reducible repeat constructor)))))
      ·have hval : valOf pl ns i = 0 := by unfold valOf; rw [hxd]; rw [if_neg (by rw [hS]; omega), if_neg (by rw [hS]; omega)]
       rw [vals_skip hlt hval]
       refine tr_skip (tr_inBlock (tr_inBlock (tr_region (tmv rfl (trl_pv (pv_addI rfl rfl (by omega) (by omega)) ?_)))))
       refine tas rfl (trl_nil (tr_keep (ks := [2,3,9,10]) (.cons rfl (.cons rfl (.cons rfl (.cons rfl .nil)))) fun base => ?_))
       refine tr_again ih0 (i + 1) (by first | omega | (dsimp only; omega)) (.cons rfl (.cons rfl (.cons rfl (.cons rfl .nil)))) (holds_pure ⟨by omega, fun hh => absurd hh (by omega)⟩ (holds_of_picks (by with_reducible repeat constructor)))
  ·refine tr_exit rfl (tr_seq (tr_region (tmv rfl (tas rfl (trl_nil (tr_ret func18 rfl .nil (by kernel_rfl) (.tmp rfl .nil) v rfl hone (by rw [show valsF pl ns (w * h) = valsAt pl ns (w * h) i from by (by_cases hz : ns.length = 0) <;> first | (rw [hz0 hz, vals_zero]; exact if_pos hz) | (have hie : i = w * h := (by omega); rw [hie]; exact (vals_end hz).symm)]; exact holds_of_picks (by with_reducible repeat constructor))))))))
 ·refine trl_not rfl (decide_eq_false g22) ?_
  refine trl_not rfl (decide_eq_false g22) ?_
  refine trl_not rfl (decide_eq_false g22) ?_
  refine trl_pv (pv_pick_f rfl (decide_eq_false g22) rfl) (trl_nil (tr_keep (ks := [2,3,9,10,26]) (.cons rfl (.cons rfl (.cons rfl (.cons rfl (.cons rfl .nil))))) fun base => ?_))
  refine tr_else rfl rfl ?_
  refine tr_exit rfl (tr_seq (tr_region (tmv rfl (tas rfl (trl_nil (tr_ret func18 rfl .nil (by kernel_rfl) (.tmp rfl .nil) v rfl hone (by rw [show valsF pl ns (w * h) = valsAt pl ns (w * h) i from by (by_cases hz : ns.length = 0) <;> first | (rw [hz0 hz, vals_zero]; exact if_pos hz) | (have hie : i = w * h := (by omega); rw [hie]; exact (vals_end hz).symm)]; exact holds_of_picks (by with_reducible repeat constructor))))))))
end Go.Proofs
