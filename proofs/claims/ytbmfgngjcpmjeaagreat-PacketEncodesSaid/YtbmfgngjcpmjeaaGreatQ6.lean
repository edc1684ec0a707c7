/- Contracts of functions that the law reaches, in every memory (part Q6). -/
import Derived.Test.YtbmfgngjcpmjeaaGreatQ5
set_option linter.unusedVariables false
set_option linter.unusedSimpArgs false
set_option maxRecDepth 10000
namespace Go.Proofs
open Go.Eng Tryz
theorem at_ok {w h : Nat} {p q : Int} (hw : w ≤ 64) (hh : h ≤ 64) (hp0 : 0 ≤ p) (hp1 : p < w) (hq0 : 0 ≤ q) (hq1 : q < h) :
    0 ≤ q * (w : Int) ∧ q * (w : Int) ≤ 4096 ∧ (q * (w : Int) + p).toNat < w * h ∧ ((q * (w : Int) + p).toNat : Int) = q * (w : Int) + p := by
  obtain ⟨i, rfl⟩ := Int.eq_ofNat_of_zero_le hp0
  obtain ⟨j, rfl⟩ := Int.eq_ofNat_of_zero_le hq0
  have h1 : j + 1 ≤ h := by omega
  have h2 : (j + 1) * w ≤ h * w := Nat.mul_le_mul_right _ h1
  have h3 : h * w ≤ 64 * 64 := Nat.mul_le_mul hh hw
  have h4 : ((j * w : Nat) : Int) = (j : Int) * (w : Int) := by simp
  rw [Nat.succ_mul] at h2
  rw [← h4, Nat.mul_comm w h]
  omega
theorem sigF_true {c : Cd} {x y : Nat} {dx dy : Int} (h : sigF c x y dx dy = true) : 0 ≤ (x : Int) + dx ∧ (x : Int) + dx < c.w ∧ 0 ≤ (y : Int) + dy ∧ (y : Int) + dy < c.h := by
  unfold sigF at h
  split at h
  · cases h
  · omega
theorem k_sig {g : Cg} {c : Cd} {n x y : Nat} {dx dy : Int} (hg : GOk g) (hf : Fit g c n) (hx : x < g.w) (hy : y < g.h) (hx0 : -1 ≤ dx) (hx1 : dx ≤ 1) (hy0 : -1 ≤ dy) (hy1 : dy ≤ 1) :
    Spec Tryz.prog 133 [g.p, .int .i64 (x : Nat), .int .i64 (y : Nat), .int .i64 dx, .int .i64 dy] [CD g c] (fun _ : Unit => ⟨.bool (sigF c x y dx dy), True, [CD g c]⟩) := by
 refine spec_of_tr func133 rfl ntmps133 (by kernel_rfl) ?_
 have hw1 := hg.w1
 have hw2 := hg.w2
 have hh1 := hg.h1
 have hh2 := hg.h2
 refine tr_seq (tr_region (tas rfl (trl_nil (tr_seq (tr_region (tmv rfl (tmv rfl (trl_pv (pv_addI rfl rfl (by omega) (by omega)) ?_))))))))
 refine tmv rfl (tmv rfl (trl_pv (pv_addI rfl rfl (by omega) (by omega)) ?_))
 refine tas rfl (tas rfl (trl_nil (tr_keep (ks := [0,2,4,11,12]) (.cons rfl (.cons rfl (.cons rfl (.cons rfl (.cons rfl .nil))))) fun base => ?_)))
 refine tr_seq (tr_seq (tr_region (tmv rfl (trl_pv (pv_lss rfl rfl) (tmv rfl (trl_split 2 rfl (fun g21 => ?_) (fun g21 => ?_)))))))
 ·refine trl_not rfl (decide_eq_true g21) ?_
  refine trl_not rfl (decide_eq_true g21) ?_
  refine trl_not rfl (decide_eq_true g21) ?_
  refine trl_not rfl (decide_eq_true g21) ?_
  refine trl_not rfl (decide_eq_true g21) ?_
  refine trl_not rfl (decide_eq_true g21) ?_
  refine trl_pv (pv_pick_t rfl (decide_eq_true g21) rfl) (tmv rfl (trl_not rfl rfl ?_))
  refine trl_not rfl rfl ?_
  refine trl_pv (pv_pick_t rfl rfl rfl) (tmv rfl (trl_not rfl rfl ?_))
  refine trl_not rfl rfl ?_
  refine trl_not rfl rfl ?_
  refine trl_not rfl rfl ?_
  refine trl_not rfl rfl ?_
  refine trl_not rfl rfl ?_
  refine trl_pv (pv_pick_t rfl rfl rfl) (tmv rfl (trl_not rfl rfl ?_))
  refine trl_not rfl rfl ?_
  refine trl_not rfl rfl ?_
  refine trl_not rfl rfl ?_
  refine trl_not rfl rfl ?_
  refine trl_not rfl rfl ?_
  refine trl_not rfl rfl ?_
  refine trl_not_u rfl (trl_not_u rfl (trl_not rfl rfl ?_))
  refine trl_not rfl rfl ?_
  refine trl_not_u rfl (trl_not_u rfl (trl_not_u rfl (trl_not rfl rfl ?_)))
  refine trl_pv (pv_pick_t rfl rfl rfl) (trl_nil (tr_keep (ks := [0,11,12,57]) (.cons rfl (.cons rfl (.cons rfl (.cons rfl .nil)))) fun base => ?_))
  refine tr_then rfl rfl ?_
  refine tr_seq (tr_region (tas rfl (trl_nil (tr_ret func133 rfl .nil (by kernel_rfl) (.tmp rfl .nil) () (by rw [show sigF c x y dx dy = false from if_pos (by rw [hf.w, hf.h, hf.style]; first | omega | exact .inr (.inr (.inr (.inr ⟨g48, by omega, by omega⟩))))]; rfl) trivial (holds_of_picks (by with_reducible repeat constructor))))))
 ·refine trl_pvg rfl (decide_eq_false g21) (pv_move rfl) (trl_pvg rfl (decide_eq_false g21) (pv_move rfl) (trl_pvg rfl (decide_eq_false g21) (pv_nilCheck rfl) (trl_pvg rfl (decide_eq_false g21) (pv_fieldAddr runUnderlying133 rfl sizeOf3 rfl rfl) (trl_valg rfl (decide_eq_false g21) (rv_cd isAgg3 rfl (by with_reducible repeat constructor) rfl) ?_))))
  refine trl_pvg rfl (decide_eq_false g21) (pv_geq rfl rfl) (trl_pv (pv_pick_f rfl (decide_eq_false g21) rfl) (tmv rfl (trl_split 10 rfl (fun g29 => ?_) (fun g29 => ?_))))
  ·refine trl_not rfl (decide_eq_true g29) ?_
   refine trl_not rfl (decide_eq_true g29) ?_
   refine trl_pv (pv_pick_t rfl (decide_eq_true g29) rfl) (tmv rfl (trl_not rfl rfl ?_))
   refine trl_not rfl rfl ?_
   refine trl_not rfl rfl ?_
   refine trl_not rfl rfl ?_
   refine trl_not rfl rfl ?_
   refine trl_not rfl rfl ?_
   refine trl_pv (pv_pick_t rfl rfl rfl) (tmv rfl (trl_not rfl rfl ?_))
   refine trl_not rfl rfl ?_
   refine trl_not rfl rfl ?_
   refine trl_not rfl rfl ?_
   refine trl_not rfl rfl ?_
   refine trl_not rfl rfl ?_
   refine trl_not rfl rfl ?_
   refine trl_not_u rfl (trl_not_u rfl (trl_not rfl rfl ?_))
   refine trl_not rfl rfl ?_
   refine trl_not_u rfl (trl_not_u rfl (trl_not_u rfl (trl_not rfl rfl ?_)))
   refine trl_pv (pv_pick_t rfl rfl rfl) (trl_nil (tr_keep (ks := [0,11,12,57]) (.cons rfl (.cons rfl (.cons rfl (.cons rfl .nil)))) fun base => ?_))
   refine tr_then rfl rfl ?_
   refine tr_seq (tr_region (tas rfl (trl_nil (tr_ret func133 rfl .nil (by kernel_rfl) (.tmp rfl .nil) () (by rw [show sigF c x y dx dy = false from if_pos (by rw [hf.w, hf.h, hf.style]; first | omega | exact .inr (.inr (.inr (.inr ⟨g48, by omega, by omega⟩))))]; rfl) trivial (holds_of_picks (by with_reducible repeat constructor))))))
  ·refine trl_pvg rfl (decide_eq_false g29) (pv_move rfl) (trl_pvg rfl (decide_eq_false g29) (pv_lss rfl rfl) (trl_pv (pv_pick_f rfl (decide_eq_false g29) rfl) (tmv rfl (trl_split 14 rfl (fun g33 => ?_) (fun g33 => ?_)))))
   ·refine trl_not rfl (decide_eq_true g33) ?_
    refine trl_not rfl (decide_eq_true g33) ?_
    refine trl_not rfl (decide_eq_true g33) ?_
    refine trl_not rfl (decide_eq_true g33) ?_
    refine trl_not rfl (decide_eq_true g33) ?_
    refine trl_not rfl (decide_eq_true g33) ?_
    refine trl_pv (pv_pick_t rfl (decide_eq_true g33) rfl) (tmv rfl (trl_not rfl rfl ?_))
    refine trl_not rfl rfl ?_
    refine trl_not rfl rfl ?_
    refine trl_not rfl rfl ?_
    refine trl_not rfl rfl ?_
    refine trl_not rfl rfl ?_
    refine trl_not rfl rfl ?_
    refine trl_not_u rfl (trl_not_u rfl (trl_not rfl rfl ?_))
    refine trl_not rfl rfl ?_
    refine trl_not_u rfl (trl_not_u rfl (trl_not_u rfl (trl_not rfl rfl ?_)))
    refine trl_pv (pv_pick_t rfl rfl rfl) (trl_nil (tr_keep (ks := [0,11,12,57]) (.cons rfl (.cons rfl (.cons rfl (.cons rfl .nil)))) fun base => ?_))
    refine tr_then rfl rfl ?_
    refine tr_seq (tr_region (tas rfl (trl_nil (tr_ret func133 rfl .nil (by kernel_rfl) (.tmp rfl .nil) () (by rw [show sigF c x y dx dy = false from if_pos (by rw [hf.w, hf.h, hf.style]; first | omega | exact .inr (.inr (.inr (.inr ⟨g48, by omega, by omega⟩))))]; rfl) trivial (holds_of_picks (by with_reducible repeat constructor))))))
   ·refine trl_pvg rfl (decide_eq_false g33) (pv_move rfl) (trl_pvg rfl (decide_eq_false g33) (pv_move rfl) (trl_pvg rfl (decide_eq_false g33) (pv_nilCheck rfl) (trl_pvg rfl (decide_eq_false g33) (pv_fieldAddr runUnderlying133 rfl sizeOf3 rfl rfl) (trl_valg rfl (decide_eq_false g33) (rv_cd isAgg3 rfl (by with_reducible repeat constructor) rfl) ?_))))
    refine trl_pvg rfl (decide_eq_false g33) (pv_geq rfl rfl) (trl_pv (pv_pick_f rfl (decide_eq_false g33) rfl) (tmv rfl (trl_split 22 rfl (fun g41 => ?_) (fun g41 => ?_))))
    ·refine trl_not rfl (decide_eq_true g41) ?_
     refine trl_not rfl (decide_eq_true g41) ?_
     refine trl_not rfl (decide_eq_true g41) ?_
     refine trl_not rfl (decide_eq_true g41) ?_
     refine trl_not rfl (decide_eq_true g41) ?_
     refine trl_not rfl (decide_eq_true g41) ?_
     refine trl_not rfl (decide_eq_true g41) ?_
     refine trl_not_u rfl (trl_not_u rfl (trl_not rfl (decide_eq_true g41) ?_))
     refine trl_not rfl (decide_eq_true g41) ?_
     refine trl_not_u rfl (trl_not_u rfl (trl_not_u rfl (trl_not rfl (decide_eq_true g41) ?_)))
     refine trl_pv (pv_pick_t rfl (decide_eq_true g41) rfl) (trl_nil (tr_keep (ks := [0,11,12,57]) (.cons rfl (.cons rfl (.cons rfl (.cons rfl .nil)))) fun base => ?_))
     refine tr_then rfl rfl ?_
     refine tr_seq (tr_region (tas rfl (trl_nil (tr_ret func133 rfl .nil (by kernel_rfl) (.tmp rfl .nil) () (by rw [show sigF c x y dx dy = false from if_pos (by rw [hf.w, hf.h, hf.style]; first | omega | exact .inr (.inr (.inr (.inr ⟨g48, by omega, by omega⟩))))]; rfl) trivial (holds_of_picks (by with_reducible repeat constructor))))))
    ·refine trl_pvg rfl (decide_eq_false g41) (pv_move rfl) (trl_pvg rfl (decide_eq_false g41) (pv_nilCheck rfl) (trl_pvg rfl (decide_eq_false g41) (pv_fieldAddr runUnderlying133 rfl sizeOf3 rfl rfl) (trl_valg rfl (decide_eq_false g41) (rv_cd isAgg3 rfl (by with_reducible repeat constructor) rfl) ?_)))
     refine trl_pvg rfl (decide_eq_false g41) (pv_and rfl rfl) (trl_pvg rfl (decide_eq_false g41) (pv_neq rfl rfl) (trl_pvg rfl (decide_eq_false g41) (pv_move rfl) (trl_split 29 rfl (fun g48 => ?_) (fun g48 => ?_))))
     ·refine trl_pvg rfl (decide_eq_true g48) (pv_move rfl) (trl_pvg rfl (decide_eq_true g48) (pv_gtr rfl rfl) (trl_pvg rfl (decide_eq_false g41) (pv_pick_t rfl (decide_eq_true g48) rfl) (trl_pvg rfl (decide_eq_false g41) (pv_move rfl) (trl_split 33 rfl (fun g52 => ?_) (fun g52 => ?_)))))
      ·refine trl_pvg rfl (decide_eq_true g52) (pv_move rfl) (trl_pvg rfl (decide_eq_true g52) (pv_remI rfl rfl (by omega) (by omega)) ?_)
       refine trl_pvg rfl (decide_eq_true g52) (pv_eql rfl rfl) (trl_pvg rfl (decide_eq_false g41) (pv_pick_t rfl (decide_eq_true g52) rfl) (trl_pv (pv_pick_f rfl (decide_eq_false g41) rfl) (trl_nil (tr_keep (ks := [0,11,12,57]) (.cons rfl (.cons rfl (.cons rfl (.cons rfl .nil)))) fun base => ?_))))
       refine tr_if rfl (fun h0 => ?_) (fun h0 => ?_)
       ·refine tr_seq (tr_region (tas rfl (trl_nil (tr_ret func133 rfl .nil (by kernel_rfl) (.tmp rfl .nil) () (by rw [show sigF c x y dx dy = false from if_pos (by rw [hf.w, hf.h, hf.style]; first | omega | exact .inr (.inr (.inr (.inr ⟨g48, by omega, by omega⟩))))]; rfl) trivial (holds_of_picks (by with_reducible repeat constructor))))))
       ·refine tr_skip (tr_seq ?_)
        obtain ⟨a1, a2, a3, a4⟩ := at_ok (w := g.w) (h := g.h) (p := (x : Int) + dx) (q := (y : Int) + dy) hw2 hh2 (by omega) (by omega) (by omega) (by omega)
        refine tr_draww (rem := [0,1,2,3,4,5,6,7,8,9,10,11,12,13,14]) (by kernel_rfl) (by kernel_rfl) rfl ?_
        refine twm 0 [1,2,3,12,13,14] rfl (by kernel_rfl) rfl rfl (twn 1 [2,3,12,13,14] rfl (by kernel_rfl) rfl rfl (trw_pure 2 [3,12,13,14] rfl (by kernel_rfl) rfl (pv_fieldAddr runUnderlying133 rfl sizeOf123 rfl rfl) (twm 4 [9,11,12,13,14] rfl (by kernel_rfl) rfl rfl (twm 5 [6,7,8,9,11,12,13,14] rfl (by kernel_rfl) rfl rfl (twn 6 [7,8,9,11,12,13,14] rfl (by kernel_rfl) rfl rfl (trw_pure 7 [8,9,11,12,13,14] rfl (by kernel_rfl) rfl (pv_fieldAddr runUnderlying133 rfl sizeOf3 rfl rfl) (twm 10 [11,12,13,14] rfl (by kernel_rfl) rfl rfl (trw_read 3 [12,13,14] rfl (by kernel_rfl) rfl (rv_cd isAgg123 rfl (by with_reducible repeat constructor) rfl) ?_))))))))
        refine trw_read 8 [9,11,12,13,14] rfl (by kernel_rfl) rfl (rv_cd isAgg3 rfl (by with_reducible repeat constructor) rfl) ?_
        refine trw_pure 9 [11,12,13,14] rfl (by kernel_rfl) rfl (pv_mulI rfl rfl (by omega) (by omega)) ?_
        refine trw_pure 11 [12,13,14] rfl (by kernel_rfl) rfl (pv_conv (pv_addI rfl rfl (by omega) (by omega)) (congrArg (Value.int .i64) (show ((y : Int) + dy) * (g.w : Int) + ((x : Int) + dx) = (((((y : Int) + dy) * (g.w : Int) + ((x : Int) + dx)).toNat : Nat) : Int) from by omega))) ?_
        refine trw_pure 12 [13,14] rfl (by kernel_rfl) rfl (pv_indexAddr_v runUnderlying123 sizeOf4 rfl rfl hg.s (Int.natCast_nonneg _) (Int.ofNat_lt.2 (by first | assumption | omega))) ?_
        refine trw_read 13 [14] rfl (by kernel_rfl) rfl (rv_cds isAgg4 rfl (by with_reducible repeat constructor) (cds_at (by assumption) (by first | assumption | omega))) ?_
        refine trw_pure 14 [] rfl (by kernel_rfl) rfl (pv_assign rfl) (trw_nil (tr_keep (ks := [10]) (.cons rfl .nil) fun base => ?_))
        refine tr_ret func133 rfl .nil (by kernel_rfl) (.tmp rfl .nil) () (by rw [show sigF c x y dx dy = c.sig.getD (((y : Int) + dy) * (g.w : Int) + ((x : Int) + dx)).toNat false from (if_neg (by rw [hf.w, hf.h, hf.style]; rintro (h | h | h | h | ⟨h1, h2, h3⟩) <;> first | omega | exact g48 h1)).trans (by rw [hf.w])]; rfl) trivial (holds_of_picks (by with_reducible repeat constructor))
      ·refine trl_not rfl (decide_eq_false g52) ?_
       refine trl_not rfl (decide_eq_false g52) ?_
       refine trl_not rfl (decide_eq_false g52) ?_
       refine trl_pvg rfl (decide_eq_false g41) (pv_pick_f rfl (decide_eq_false g52) rfl) (trl_pv (pv_pick_f rfl (decide_eq_false g41) rfl) (trl_nil (tr_keep (ks := [0,11,12,57]) (.cons rfl (.cons rfl (.cons rfl (.cons rfl .nil)))) fun base => ?_)))
       refine tr_else rfl rfl ?_
       refine tr_skip (tr_seq ?_)
       obtain ⟨a1, a2, a3, a4⟩ := at_ok (w := g.w) (h := g.h) (p := (x : Int) + dx) (q := (y : Int) + dy) hw2 hh2 (by omega) (by omega) (by omega) (by omega)
       refine tr_draww (rem := [0,1,2,3,4,5,6,7,8,9,10,11,12,13,14]) (by kernel_rfl) (by kernel_rfl) rfl ?_
       refine twm 0 [1,2,3,12,13,14] rfl (by kernel_rfl) rfl rfl (twn 1 [2,3,12,13,14] rfl (by kernel_rfl) rfl rfl (trw_pure 2 [3,12,13,14] rfl (by kernel_rfl) rfl (pv_fieldAddr runUnderlying133 rfl sizeOf123 rfl rfl) (twm 4 [9,11,12,13,14] rfl (by kernel_rfl) rfl rfl (twm 5 [6,7,8,9,11,12,13,14] rfl (by kernel_rfl) rfl rfl (twn 6 [7,8,9,11,12,13,14] rfl (by kernel_rfl) rfl rfl (trw_pure 7 [8,9,11,12,13,14] rfl (by kernel_rfl) rfl (pv_fieldAddr runUnderlying133 rfl sizeOf3 rfl rfl) (twm 10 [11,12,13,14] rfl (by kernel_rfl) rfl rfl (trw_read 3 [12,13,14] rfl (by kernel_rfl) rfl (rv_cd isAgg123 rfl (by with_reducible repeat constructor) rfl) ?_))))))))
       refine trw_read 8 [9,11,12,13,14] rfl (by kernel_rfl) rfl (rv_cd isAgg3 rfl (by with_reducible repeat constructor) rfl) ?_
       refine trw_pure 9 [11,12,13,14] rfl (by kernel_rfl) rfl (pv_mulI rfl rfl (by omega) (by omega)) ?_
       refine trw_pure 11 [12,13,14] rfl (by kernel_rfl) rfl (pv_conv (pv_addI rfl rfl (by omega) (by omega)) (congrArg (Value.int .i64) (show ((y : Int) + dy) * (g.w : Int) + ((x : Int) + dx) = (((((y : Int) + dy) * (g.w : Int) + ((x : Int) + dx)).toNat : Nat) : Int) from by omega))) ?_
       refine trw_pure 12 [13,14] rfl (by kernel_rfl) rfl (pv_indexAddr_v runUnderlying123 sizeOf4 rfl rfl hg.s (Int.natCast_nonneg _) (Int.ofNat_lt.2 (by first | assumption | omega))) ?_
       refine trw_read 13 [14] rfl (by kernel_rfl) rfl (rv_cds isAgg4 rfl (by with_reducible repeat constructor) (cds_at (by assumption) (by first | assumption | omega))) ?_
       refine trw_pure 14 [] rfl (by kernel_rfl) rfl (pv_assign rfl) (trw_nil (tr_keep (ks := [10]) (.cons rfl .nil) fun base => ?_))
       refine tr_ret func133 rfl .nil (by kernel_rfl) (.tmp rfl .nil) () (by rw [show sigF c x y dx dy = c.sig.getD (((y : Int) + dy) * (g.w : Int) + ((x : Int) + dx)).toNat false from (if_neg (by rw [hf.w, hf.h, hf.style]; rintro (h | h | h | h | ⟨h1, h2, h3⟩) <;> first | omega | exact g48 h1)).trans (by rw [hf.w])]; rfl) trivial (holds_of_picks (by with_reducible repeat constructor))
     ·refine trl_not rfl (decide_eq_false g48) ?_
      refine trl_not rfl (decide_eq_false g48) ?_
      refine trl_pvg rfl (decide_eq_false g41) (pv_pick_f rfl (decide_eq_false g48) rfl) (trl_pvg rfl (decide_eq_false g41) (pv_move rfl) (trl_not rfl rfl ?_))
      refine trl_not rfl rfl ?_
      refine trl_not rfl rfl ?_
      refine trl_pvg rfl (decide_eq_false g41) (pv_pick_f rfl rfl rfl) (trl_pv (pv_pick_f rfl (decide_eq_false g41) rfl) (trl_nil (tr_keep (ks := [0,11,12,57]) (.cons rfl (.cons rfl (.cons rfl (.cons rfl .nil)))) fun base => ?_)))
      refine tr_else rfl rfl ?_
      refine tr_skip (tr_seq ?_)
      obtain ⟨a1, a2, a3, a4⟩ := at_ok (w := g.w) (h := g.h) (p := (x : Int) + dx) (q := (y : Int) + dy) hw2 hh2 (by omega) (by omega) (by omega) (by omega)
      refine tr_draww (rem := [0,1,2,3,4,5,6,7,8,9,10,11,12,13,14]) (by kernel_rfl) (by kernel_rfl) rfl ?_
      refine twm 0 [1,2,3,12,13,14] rfl (by kernel_rfl) rfl rfl (twn 1 [2,3,12,13,14] rfl (by kernel_rfl) rfl rfl (trw_pure 2 [3,12,13,14] rfl (by kernel_rfl) rfl (pv_fieldAddr runUnderlying133 rfl sizeOf123 rfl rfl) (twm 4 [9,11,12,13,14] rfl (by kernel_rfl) rfl rfl (twm 5 [6,7,8,9,11,12,13,14] rfl (by kernel_rfl) rfl rfl (twn 6 [7,8,9,11,12,13,14] rfl (by kernel_rfl) rfl rfl (trw_pure 7 [8,9,11,12,13,14] rfl (by kernel_rfl) rfl (pv_fieldAddr runUnderlying133 rfl sizeOf3 rfl rfl) (twm 10 [11,12,13,14] rfl (by kernel_rfl) rfl rfl (trw_read 3 [12,13,14] rfl (by kernel_rfl) rfl (rv_cd isAgg123 rfl (by with_reducible repeat constructor) rfl) ?_))))))))
      refine trw_read 8 [9,11,12,13,14] rfl (by kernel_rfl) rfl (rv_cd isAgg3 rfl (by with_reducible repeat constructor) rfl) ?_
      refine trw_pure 9 [11,12,13,14] rfl (by kernel_rfl) rfl (pv_mulI rfl rfl (by omega) (by omega)) ?_
      refine trw_pure 11 [12,13,14] rfl (by kernel_rfl) rfl (pv_conv (pv_addI rfl rfl (by omega) (by omega)) (congrArg (Value.int .i64) (show ((y : Int) + dy) * (g.w : Int) + ((x : Int) + dx) = (((((y : Int) + dy) * (g.w : Int) + ((x : Int) + dx)).toNat : Nat) : Int) from by omega))) ?_
      refine trw_pure 12 [13,14] rfl (by kernel_rfl) rfl (pv_indexAddr_v runUnderlying123 sizeOf4 rfl rfl hg.s (Int.natCast_nonneg _) (Int.ofNat_lt.2 (by first | assumption | omega))) ?_
      refine trw_read 13 [14] rfl (by kernel_rfl) rfl (rv_cds isAgg4 rfl (by with_reducible repeat constructor) (cds_at (by assumption) (by first | assumption | omega))) ?_
      refine trw_pure 14 [] rfl (by kernel_rfl) rfl (pv_assign rfl) (trw_nil (tr_keep (ks := [10]) (.cons rfl .nil) fun base => ?_))
      refine tr_ret func133 rfl .nil (by kernel_rfl) (.tmp rfl .nil) () (by rw [show sigF c x y dx dy = c.sig.getD (((y : Int) + dy) * (g.w : Int) + ((x : Int) + dx)).toNat false from (if_neg (by rw [hf.w, hf.h, hf.style]; rintro (h | h | h | h | ⟨h1, h2, h3⟩) <;> first | omega | exact g48 h1)).trans (by rw [hf.w])]; rfl) trivial (holds_of_picks (by with_reducible repeat constructor))
theorem k_around {g : Cg} {c : Cd} {n x y : Nat} (hg : GOk g) (hf : Fit g c n) (hx : x < g.w) (hy : y < g.h) :
    Spec Tryz.prog 124 [g.p, .int .i64 (x : Nat), .int .i64 (y : Nat)] [CD g c] (fun _ : Unit => ⟨.tuple #[.int .i64 (aH c x y), .int .i64 (aV c x y), .int .i64 (aD c x y)], True, [CD g c]⟩) := by
 refine spec_of_tr func124 rfl ntmps124 (by kernel_rfl) ?_
 have hw1 := hg.w1
 have hw2 := hg.w2
 have hh1 := hg.h1
 have hh2 := hg.h2
 have o1 := oneB_le (sigF c x y (-1) 0)
 have o2 := oneB_le (sigF c x y 1 0)
 have o3 := oneB_le (sigF c x y 0 (-1))
 have o4 := oneB_le (sigF c x y 0 1)
 have o5 := oneB_le (sigF c x y (-1) (-1))
 have o6 := oneB_le (sigF c x y 1 (-1))
 have o7 := oneB_le (sigF c x y (-1) 1)
 have o8 := oneB_le (sigF c x y 1 1)
 refine tr_seq (tr_region (tas rfl (tas rfl (tas rfl (trl_nil (tr_seq (tr_region (tmv rfl (tmv rfl (tmv rfl (trl_eff (ef_call rfl rfl call133 (k_sig hg hf hx hy (dx := -1) (dy := 0) (by decide) (by decide) (by decide) (by decide)) (by with_reducible repeat constructor) fun x15 hx15 => ?_))))))))))))
 dsimp only [List.cons_append, List.nil_append]
 refine trl_eff (ef_call rfl rfl call54 (k_one) (by with_reducible repeat constructor) fun x16 hx16 => ?_)
 dsimp only [List.cons_append, List.nil_append]
 refine tmv rfl (tmv rfl (tmv rfl (trl_eff (ef_call rfl rfl call133 (k_sig hg hf hx hy (dx := 1) (dy := 0) (by decide) (by decide) (by decide) (by decide)) (by with_reducible repeat constructor) fun x20 hx20 => ?_))))
 dsimp only [List.cons_append, List.nil_append]
 refine trl_eff (ef_call rfl rfl call54 (k_one) (by with_reducible repeat constructor) fun x21 hx21 => ?_)
 dsimp only [List.cons_append, List.nil_append]
 refine trl_pv (pv_addI rfl rfl (by omega) (by omega)) ?_
 refine tas rfl (trl_nil (tr_keep (ks := [0,1,2,9]) (.cons rfl (.cons rfl (.cons rfl (.cons rfl .nil)))) fun base => ?_))
 refine tr_seq (tr_region (tmv rfl (tmv rfl (tmv rfl (trl_eff (ef_call rfl rfl call133 (k_sig hg hf hx hy (dx := 0) (dy := -1) (by decide) (by decide) (by decide) (by decide)) (by with_reducible repeat constructor) fun x26 hx26 => ?_))))))
 dsimp only [List.cons_append, List.nil_append]
 refine trl_eff (ef_call rfl rfl call54 (k_one) (by with_reducible repeat constructor) fun x27 hx27 => ?_)
 dsimp only [List.cons_append, List.nil_append]
 refine tmv rfl (tmv rfl (tmv rfl (trl_eff (ef_call rfl rfl call133 (k_sig hg hf hx hy (dx := 0) (dy := 1) (by decide) (by decide) (by decide) (by decide)) (by with_reducible repeat constructor) fun x31 hx31 => ?_))))
 dsimp only [List.cons_append, List.nil_append]
 refine trl_eff (ef_call rfl rfl call54 (k_one) (by with_reducible repeat constructor) fun x32 hx32 => ?_)
 dsimp only [List.cons_append, List.nil_append]
 refine trl_pv (pv_addI rfl rfl (by omega) (by omega)) ?_
 refine tas rfl (trl_nil (tr_keep (ks := [0,1,2,9,10]) (.cons rfl (.cons rfl (.cons rfl (.cons rfl (.cons rfl .nil))))) fun base => ?_))
 refine tr_seq (tr_region (tmv rfl (tmv rfl (tmv rfl (trl_eff (ef_call rfl rfl call133 (k_sig hg hf hx hy (dx := -1) (dy := -1) (by decide) (by decide) (by decide) (by decide)) (by with_reducible repeat constructor) fun x37 hx37 => ?_))))))
 dsimp only [List.cons_append, List.nil_append]
 refine trl_eff (ef_call rfl rfl call54 (k_one) (by with_reducible repeat constructor) fun x38 hx38 => ?_)
 dsimp only [List.cons_append, List.nil_append]
 refine tmv rfl (tmv rfl (tmv rfl (trl_eff (ef_call rfl rfl call133 (k_sig hg hf hx hy (dx := 1) (dy := -1) (by decide) (by decide) (by decide) (by decide)) (by with_reducible repeat constructor) fun x42 hx42 => ?_))))
 dsimp only [List.cons_append, List.nil_append]
 refine trl_eff (ef_call rfl rfl call54 (k_one) (by with_reducible repeat constructor) fun x43 hx43 => ?_)
 dsimp only [List.cons_append, List.nil_append]
 refine trl_pv (pv_addI rfl rfl (by omega) (by omega)) ?_
 refine tmv rfl (tmv rfl (tmv rfl (trl_eff (ef_call rfl rfl call133 (k_sig hg hf hx hy (dx := -1) (dy := 1) (by decide) (by decide) (by decide) (by decide)) (by with_reducible repeat constructor) fun x48 hx48 => ?_))))
 dsimp only [List.cons_append, List.nil_append]
 refine trl_eff (ef_call rfl rfl call54 (k_one) (by with_reducible repeat constructor) fun x49 hx49 => ?_)
 dsimp only [List.cons_append, List.nil_append]
 refine trl_pv (pv_addI rfl rfl (by omega) (by omega)) ?_
 refine tmv rfl (tmv rfl (tmv rfl (trl_eff (ef_call rfl rfl call133 (k_sig hg hf hx hy (dx := 1) (dy := 1) (by decide) (by decide) (by decide) (by decide)) (by with_reducible repeat constructor) fun x54 hx54 => ?_))))
 dsimp only [List.cons_append, List.nil_append]
 refine trl_eff (ef_call rfl rfl call54 (k_one) (by with_reducible repeat constructor) fun x55 hx55 => ?_)
 dsimp only [List.cons_append, List.nil_append]
 refine trl_pv (pv_addI rfl rfl (by omega) (by omega)) ?_
 refine tas rfl (trl_nil (tr_keep (ks := [9,10,11]) (.cons rfl (.cons rfl (.cons rfl .nil))) fun base => ?_))
 refine tr_seq (tr_region (tmv rfl (tmv rfl (tmv rfl (tas rfl (tas rfl (tas rfl (trl_nil (tr_ret func124 rfl .nil (by kernel_rfl) (.tmp rfl (.tmp rfl (.tmp rfl .nil))) () rfl trivial (holds_of_picks (by with_reducible repeat constructor)))))))))))
theorem k_zero {g : Cg} {c : Cd} {n x y : Nat} (hg : GOk g) (hf : Fit g c n) (hx : x < g.w) (hy : y < g.h) :
    Spec Tryz.prog 121 [g.p, .int .i64 (x : Nat), .int .i64 (y : Nat)] [CD g c] (fun _ : Unit => ⟨.int .i64 (ctxZ c x y), True, [CD g c]⟩) := by
 refine spec_of_tr func121 rfl ntmps121 (by kernel_rfl) ?_
 have hw1 := hg.w1
 have hw2 := hg.w2
 have hh1 := hg.h1
 have hh2 := hg.h2
 have hb := a_le c x y
 refine tr_seq (tr_region (tas rfl (trl_nil (tr_seq (tr_region (tmv rfl (tmv rfl (tmv rfl (trl_eff (ef_call rfl rfl call124 (k_around hg hf hx hy) (by with_reducible repeat constructor) fun x14 hx14 => ?_))))))))))
 dsimp only [List.cons_append, List.nil_append]
 refine tmv rfl (trl_pv (pv_extract rfl rfl) (trl_pv (pv_extract rfl rfl) (trl_pv (pv_extract rfl rfl) (tas rfl (tas rfl (tas rfl (trl_nil (tr_keep (ks := [0,7,8,9]) (.cons rfl (.cons rfl (.cons rfl (.cons rfl .nil)))) fun base => ?_))))))))
 refine tr_seq (tr_region (tmv rfl (tnc rfl (trl_pv (pv_fieldAddr runUnderlying133 rfl sizeOf3 rfl rfl) (trl_val (rv_cd isAgg3 rfl (by with_reducible repeat constructor) rfl) ?_)))))
 refine tmv rfl (tmv rfl (tmv rfl (trl_eff (ef_call rfl rfl call130 (x_zero (band := g.band) hb.1.1 hb.1.2 hb.2.1.1 hb.2.1.2 hb.2.2.1 hb.2.2.2) (by with_reducible repeat constructor) fun x25 hx25 => ?_))))
 dsimp only [List.cons_append, List.nil_append]
 refine tas rfl (trl_nil (tr_keep (ks := [6]) (.cons rfl .nil) fun base => ?_))
 refine tr_ret func121 rfl .nil (by kernel_rfl) (.tmp rfl .nil) () (by unfold ctxZ; rw [hf.band]; rfl) trivial (holds_of_picks (by with_reducible repeat constructor))
theorem k_says {g : Cg} {c : Cd} {n x y : Nat} {dx dy : Int} (hg : GOk g) (hf : Fit g c n) (hx : x < g.w) (hy : y < g.h) (hx0 : -1 ≤ dx) (hx1 : dx ≤ 1) (hy0 : -1 ≤ dy) (hy1 : dy ≤ 1) :
    Spec Tryz.prog 131 [g.p, .int .i64 (x : Nat), .int .i64 (y : Nat), .int .i64 dx, .int .i64 dy] [CD g c] (fun _ : Unit => ⟨.int .i64 (saysF c x y dx dy), True, [CD g c]⟩) := by
 refine spec_of_tr func131 rfl ntmps131 (by kernel_rfl) ?_
 have hw1 := hg.w1
 have hw2 := hg.w2
 have hh1 := hg.h1
 have hh2 := hg.h2
 refine tr_seq (tr_region (tas rfl (trl_nil (tr_seq (tr_seq (tr_region (tmv rfl (tmv rfl (tmv rfl (tmv rfl (tmv rfl (trl_eff (ef_call rfl rfl call133 (k_sig hg hf hx hy hx0 hx1 hy0 hy1) (by with_reducible repeat constructor) fun x16 hx16 => ?_)))))))))))))
 dsimp only [List.cons_append, List.nil_append]
 refine trl_pv (pv_not rfl) (trl_nil (tr_keep (ks := [0,1,2,3,4,17]) (.cons rfl (.cons rfl (.cons rfl (.cons rfl (.cons rfl (.cons rfl .nil)))))) fun base => ?_))
 refine tr_ifb rfl (fun h0 => ?_) (fun h0 => ?_)
 ·refine tr_seq (tr_region (tas rfl (trl_nil (tr_ret func131 rfl .nil (by kernel_rfl) (.tmp rfl .nil) () (by rw [show saysF c x y dx dy = 0 from if_pos (by simpa using h0)]; rfl) trivial (holds_of_picks (by with_reducible repeat constructor))))))
 ·refine tr_skip (tr_seq ?_)
  have hs : sigF c x y dx dy = true := by simpa using h0
  obtain ⟨s1, s2, s3, s4⟩ := sigF_true hs
  rw [hf.w] at s2
  rw [hf.h] at s4
  obtain ⟨a1, a2, a3, a4⟩ := at_ok (w := g.w) (h := g.h) (p := (x : Int) + dx) (q := (y : Int) + dy) hw2 hh2 (by omega) (by omega) (by omega) (by omega)
  refine tr_draww (rem := [0,1,2,3,4,5,6,7,8,9,10,11,12,13,14,15,16,17,18,19,20]) (by kernel_rfl) (by kernel_rfl) rfl ?_
  refine twm 0 [1,2,3,16,17,18,19,20] rfl (by kernel_rfl) rfl rfl (twn 1 [2,3,16,17,18,19,20] rfl (by kernel_rfl) rfl rfl (trw_pure 2 [3,16,17,18,19,20] rfl (by kernel_rfl) rfl (pv_fieldAddr runUnderlying133 rfl sizeOf38 rfl rfl) (twm 4 [6,11,13,15,16,17,18,19,20] rfl (by kernel_rfl) rfl rfl (twm 5 [6,11,13,15,16,17,18,19,20] rfl (by kernel_rfl) rfl rfl (trw_pure 6 [11,13,15,16,17,18,19,20] rfl (by kernel_rfl) rfl (pv_addI rfl rfl (by omega) (by omega)) ?_)))))
  refine twm 7 [8,9,10,11,13,15,16,17,18,19,20] rfl (by kernel_rfl) rfl rfl (twn 8 [9,10,11,13,15,16,17,18,19,20] rfl (by kernel_rfl) rfl rfl (trw_pure 9 [10,11,13,15,16,17,18,19,20] rfl (by kernel_rfl) rfl (pv_fieldAddr runUnderlying133 rfl sizeOf3 rfl rfl) (twm 12 [13,15,16,17,18,19,20] rfl (by kernel_rfl) rfl rfl (twm 14 [15,16,17,18,19,20] rfl (by kernel_rfl) rfl rfl (trw_read 3 [16,17,18,19,20] rfl (by kernel_rfl) rfl (rv_cd isAgg38 rfl (by with_reducible repeat constructor) rfl) ?_)))))
  refine trw_read 10 [11,13,15,16,17,18,19,20] rfl (by kernel_rfl) rfl (rv_cd isAgg3 rfl (by with_reducible repeat constructor) rfl) ?_
  refine trw_pure 11 [13,15,16,17,18,19,20] rfl (by kernel_rfl) rfl (pv_mulI rfl rfl (by omega) (by omega)) ?_
  refine trw_pure 13 [15,16,17,18,19,20] rfl (by kernel_rfl) rfl (pv_addI rfl rfl (by omega) (by omega)) ?_
  refine trw_pure 15 [16,17,18,19,20] rfl (by kernel_rfl) rfl (pv_conv (pv_addI rfl rfl (by omega) (by omega)) (congrArg (Value.int .i64) (show ((y : Int) + dy) * (g.w : Int) + (x : Int) + dx = (((((y : Int) + dy) * (g.w : Int) + ((x : Int) + dx)).toNat : Nat) : Int) from by omega))) ?_
  refine trw_pure 16 [17,18,19,20] rfl (by kernel_rfl) rfl (pv_indexAddr_v runUnderlying38 sizeOf3 rfl rfl hg.n (Int.natCast_nonneg _) (Int.ofNat_lt.2 (by first | assumption | omega))) ?_
  refine trw_read 17 [18,19,20] rfl (by kernel_rfl) rfl (rv_cdn isAgg3 rfl (by with_reducible repeat constructor) (cdn_at (by assumption) (by first | assumption | omega))) ?_
  refine trw_pure 18 [19,20] rfl (by kernel_rfl) rfl (pv_mul rfl rfl) (trw_pure 19 [20] rfl (by kernel_rfl) rfl (pv_sub rfl rfl) (trw_pure 20 [] rfl (by kernel_rfl) rfl (pv_assign rfl) (trw_nil (tr_keep (ks := [10]) (.cons rfl .nil) fun base => ?_))))
  refine tr_ret func131 rfl .nil (by kernel_rfl) (.tmp rfl .nil) () (by rw [show saysF c x y dx dy = wI (1 - wI (2 * c.neg.getD (((y : Int) + dy) * (g.w : Int) + ((x : Int) + dx)).toNat 0)) from (if_neg (by rw [hs]; decide)).trans (by rw [hf.w, Int.add_assoc])]; rfl) trivial (holds_of_picks (by with_reducible repeat constructor))
end Go.Proofs
