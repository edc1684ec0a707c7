/- Contracts of functions that the law reaches, in every memory (part W3). -/
import Derived.Test.YtbmfgngjcpmjeaaGreatW2
import Derived.Test.YtbmfgngjcpmjeaaGreatPk4
import Derived.Test.YtbmfgngjcpmjeaaGreatRk4
set_option linter.unusedVariables false
set_option linter.unusedSimpArgs false
set_option maxRecDepth 10000
namespace Go.Proofs
open Go.Eng Tryz
theorem pv_eqp {P : Program} {ty t t' : TypeId} {l : List (Nat × Value)} {base : Env} {x y : Operand} {a : Addr} {t0 : TypeId} (hU : ∀ w, (underlying t).run P w = .ok (.pointer t0) w) (hx : evO l x = some (.pointer (some a))) (hy : evO l y = some (.pointer none)) :
    PureV P (.binOp .eql t x y t') ty (Eng.look l base) (.bool false) := fun w => by
  have h : eqGuard .eql t x y (.pointer (some a)) (.pointer none) = pure () := by simp [eqGuard]
  have h3 : ∀ d, (Op.equalIn (d + 1) t (.pointer (some a)) (.pointer none)).run P w = .ok false w := fun d => by simp [Op.equalIn, hU]
  have h2 : (Op.equal t (.pointer (some a)) (.pointer none)).run P w = .ok false w := h3 9999
  simp [execU, execOp, evO_ev hx, evO_ev hy, h, binOp, h2]
theorem sls_one {α β : Type} {A : α → β → SL} {a : α} {b : β} : Fold [A a b] (SLs A [a] [b]) := by
  intro F w N hw
  show Holds (SLs A ([] ++ [a]) ([] ++ [b]) :: N) F w
  exact sls_push (A := A) (l := []) (m := []) (a := a) (b := b) rfl F w N (Holds.perm (sls_nil (A := A) (m := []) F w (A a b :: N) hw) (List.Perm.swap (A a b) (SLs A [] []) N))
theorem known_enc : pack (encF 0 1 0 [newBd 5 1 1]).bits = [0] ∧ (encF 0 1 0 [newBd 5 1 1]).body = [] := by decide
theorem k_known : Spec Tryz.prog 6 [] [] (fun _ : Unit => ⟨.bool true, True, []⟩) := by
 refine spec_of_tr func6 rfl ntmps6 (by kernel_rfl) ?_
 refine tr_seq (tr_region (tas rfl (trl_nil (tr_seq (tr_region (trl_eff (ef_call rfl rfl call15 (p_newband (w := 1) (h := 1) (planes := 5) (by decide) (by decide)) (by with_reducible repeat constructor) fun g hx4 => ?_)))))))
 dsimp only [List.cons_append, List.nil_append]
 refine tas rfl (trl_nil (tr_seq (tr_seq (tr_region (tmv rfl (trl_pv (pv_eqp runUnderlying43 rfl rfl) (trl_nil (tr_else rfl rfl ?_))))))))
 refine tr_skip (tr_seq (tr_region (tmv rfl (trl_eff (ef_buildSlice runUnderlying26 sizeOf43 zeroValue43 rfl rfl rfl rfl rfl (by dsimp only [flatC, cellsL, List.toList_toArray, List.cons_append, List.nil_append, List.append_nil]) fun r9 => ?_)))))
 refine TrL.fold (As := [pt r9 43 [.pointer (some ⟨g.r, 0, none⟩)]]) (show Fold _ (Sl 43 1 [g].length (.slice (some ⟨r9, 0, none⟩) 1 1) ([g].map fun g => Value.pointer (some ⟨g.r, 0, none⟩))) from sl_of_pt (n := 1) rfl) (by with_reducible repeat constructor) ?_
 refine TrL.fold (sls_one (A := PB) (a := g) (b := newBd 5 1 1)) (by with_reducible repeat constructor) ?_
 refine trl_eff (ef_call rfl rfl call10 (p_encode (G := [g]) (bds := [newBd 5 1 1]) (style := 0) (count := 1) (layer := 0) (by simp) rfl (fun bd hb => by rw [List.mem_singleton] at hb; subst hb; exact newBd_ok (by decide) (by decide) (by decide) (by decide)) (by decide) (by decide) (by decide) (by decide) (by decide) rfl) (by with_reducible repeat constructor) fun x hx10 => ?_)
 dsimp only [List.cons_append, List.nil_append]
 refine tmv rfl (trl_pv (pv_extract rfl rfl) (trl_pv (pv_extract rfl rfl) (tas rfl (tas rfl (trl_nil (tr_keep (ks := [2,3]) (.cons rfl (.cons rfl .nil)) fun base => ?_))))))
 refine tr_seq ?_
 rw [known_enc.1, known_enc.2]
 refine tr_region (tmv rfl (trl_val (rv_len_sl runUnderlying30 rfl (by with_reducible repeat constructor)) ?_))
 refine trl_pv (pv_eql rfl rfl) (tmv rfl (trl_pvg rfl (decide_eq_true (by decide)) (pv_move rfl) ?_))
 refine trl_valg rfl (decide_eq_true (by decide)) (rv_indexAddr_sl runUnderlying30 sizeOf5 rfl rfl (by with_reducible repeat constructor) (by decide) (by decide)) ?_
 refine trl_valg rfl (decide_eq_true (by decide)) (rv_load_sl isAgg5 rfl (by with_reducible repeat constructor) (show (u8s [0])[Int.toNat 0 * 1]? = some (.int .u8 0) from rfl)) ?_
 refine trl_pvg rfl (decide_eq_true (by decide)) (pv_eql rfl rfl) ?_
 refine trl_pv (pv_pick_t rfl (decide_eq_true (by decide)) rfl) ?_
 refine tmv rfl (trl_pvg rfl (decide_eq_true (by decide)) (pv_move rfl) ?_)
 refine trl_valg rfl (decide_eq_true (by decide)) (rv_len_sl runUnderlying30 rfl (by with_reducible repeat constructor)) ?_
 refine trl_pvg rfl (decide_eq_true (by decide)) (pv_eql rfl rfl) ?_
 refine trl_pv (pv_pick_t rfl (decide_eq_true (by decide)) rfl) ?_
 refine tas rfl (trl_nil (tr_keep (ks := [0]) (.cons rfl .nil) fun base => ?_))
 refine tr_ret func6 rfl .nil (by kernel_rfl) (.tmp rfl .nil) () (by show Value.bool _ = Value.bool true; rfl) trivial (holds_of_picks (by with_reducible repeat constructor))
end Go.Proofs
