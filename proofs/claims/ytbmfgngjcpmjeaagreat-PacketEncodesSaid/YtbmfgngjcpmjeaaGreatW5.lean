/- Contracts of functions that the law reaches, in every memory (part W5). -/
import Derived.Test.YtbmfgngjcpmjeaaGreatW4
import Derived.Laws.BytesString
set_option linter.unusedVariables false
set_option linter.unusedSimpArgs false
set_option maxRecDepth 10000
namespace Go.Proofs
open Go.Eng Tryz
def strOf (bs : List Nat) : ByteArray := (bs.map fun (n : Nat) => (n : Int)).foldl (fun r n => r.push (UInt8.ofNat n.toNat)) ByteArray.empty
theorem rv_str {P : Program} {ty : TypeId} {l : List (Nat × Value)} {base : Env} {L M : List SL} {x : Operand} {S D e n : Nat} {v : Value} {bs : List Nat} (hS : ∀ w, (underlying S).run P w = .ok (.slice e) w) (he : ∀ w, (underlying e).run P w = .ok (.int .u8) w) (hD : ∀ w, (underlying D).run P w = .ok .string w)
    (hx : evO l x = some v) (hp : Pick (Sl e 1 n v (u8s bs)) L M) (hn : n = bs.length) : ReadV P (.convert S D x) ty (Eng.look l base) L (.string (strOf bs)) := fun F w hw => by
  subst hn
  have hw' := hw.perm hp.perm
  have key : ∀ (a : Option Addr) (c : Nat), v = .slice a bs.length c → (Conv.bytesToString v).run P w = .ok (.string (strOf bs)) w → (execU (ev (Eng.look l base)) (.convert S D x) ty).run P w = .ok (.value (.string (strOf bs))) w := by
    intro a c hv h
    subst hv
    simp [execU, execOp, convert, evO_ev hx, hS, hD, he, h]
  rcases holds_sl.1 hw' with ⟨a, rfl, hl, hc, _⟩ | ⟨p, cap, rest, rfl, h1, h2, h3, h4⟩
  · have hb : bs = [] := List.eq_nil_of_length_eq_zero hl
    subst hb
    refine key a 0 rfl ?_
    cases a with
    | none => rfl
    | some a => exact run_bytesToString w a 0 0 [] (by simp [loadCells, loadCellsFrom])
  · refine key (some ⟨p, 0, none⟩) cap rfl ?_
    have h5 := Eng.run_loadCellsFrom (P := P) (w := w) (r := p) (o := 0) (cs := u8s bs ++ rest) (fun i v hv => by rw [Nat.zero_add]; exact pt_cell h4 hv) bs.length 0 #[] (by simp)
    refine run_bytesToString w ⟨p, 0, none⟩ bs.length cap (bs.map fun (n : Nat) => (n : Int)) ?_
    show (loadCellsFrom ⟨p, 0, none⟩ 0 bs.length #[]).run P w = _
    rw [h5, List.drop_zero, List.take_append_of_le_length (by simp), List.take_of_length_le (by simp)]
    simp [u8s]
theorem p_enc {lv : Value} {G : List Gd} {bds : List Bd} {style : Int} {count layer n : Nat} (hn : G.length = n) (hGl : bds.length = n) (hG : n ≤ 1000) (hL : LOk count layer bds) (hR : ∀ bd ∈ bds, RdOk bd) (hN : ∀ n ∈ counts bds, n ≤ 1000) (hN2 : (spotsL (counts bds) 0).length ≤ 100) (hc : 1 ≤ count) (hc2 : count ≤ 100) (hl : layer < 100) (hlv : one? lv = true) :
    Spec Tryz.prog 10 [lv, .int .i64 style, .int .i64 (count : Nat), .int .i64 (layer : Nat)] [Sl 43 1 n lv (ptrs G), SLs PB G bds]
    (fun x : Value × Value => ⟨.tuple #[x.1, x.2], one? x.1 = true ∧ one? x.2 = true, [Sl 43 1 n lv (ptrs G), SLs PB G (encF style count layer bds).bds, Sl 5 1 (pack (encF style count layer bds).bits).length x.1 (u8s (pack (encF style count layer bds).bits)), Sl 5 1 (encF style count layer bds).body.length x.2 (u8s (encF style count layer bds).body)]⟩) := by
  subst hn
  exact p_encode hG hGl hL.ok hN hN2 hc hc2 (by omega) hlv
theorem r_enc {lv : Value} {G : List Gd} {bds : List Bd} {style : Int} {count layer n : Nat} (hn : G.length = n) (hGl : bds.length = n) (hG : n ≤ 1000) (hL : LOk count layer bds) (hR : ∀ bd ∈ bds, RdOk bd) (hN : ∀ n ∈ counts bds, n ≤ 1000) (hN2 : (spotsL (counts bds) 0).length ≤ 100) (hc : 1 ≤ count) (hc2 : count ≤ 100) (hl : layer < 100) (hlv : one? lv = true) :
    Spec Tryz.prog 11 [lv, .int .i64 style, .int .i64 (count : Nat), .int .i64 (layer : Nat)] [Sl 47 1 n lv (ptrs G), SLs RB G bds]
    (fun x : Value × Value => ⟨.tuple #[x.1, x.2], one? x.1 = true ∧ one? x.2 = true, [Sl 47 1 n lv (ptrs G), SLs RB G (encF style count layer bds).bds, Sl 5 1 (pack (encF style count layer bds).bits).length x.1 (u8s (pack (encF style count layer bds).bits)), Sl 5 1 (encF style count layer bds).body.length x.2 (u8s (encF style count layer bds).body)]⟩) := by
  subst hn
  exact r_encode hGl hG hL hR hN hN2 hc hc2 hl
theorem k_packetEncodes {W : World} {lv : Value} {l : List Shp} {p o : Nat} {sv ov : Int} (hR : RSh W lv l p o) : Spec Tryz.prog 3 [lv, .int .i64 sv, .int .i64 ov] [ro W] (fun _ : Unit => ⟨.bool true, True, [ro W]⟩) := by
 refine spec_of_tr func3 rfl ntmps3 (by kernel_rfl) ?_
 refine tr_seq (tr_region (tas rfl (trl_nil (tr_seq (tr_seq (tr_region (trl_eff (ef_call rfl rfl call6 (k_known) (by with_reducible repeat constructor) fun x16 hx16 => ?_))))))))
 dsimp only [List.cons_append, List.nil_append]
 refine trl_pv (pv_not rfl) (trl_nil (tr_else rfl rfl ?_))
 refine tr_skip (tr_seq (tr_seq (tr_region (tmv rfl (trl_eff (ef_call rfl rfl call7 (k_few hR.1) (by with_reducible repeat constructor) fun x19 hx19 => ?_))))))
 dsimp only [List.cons_append, List.nil_append]
 refine trl_pv (pv_not rfl) (trl_nil (tr_ifb rfl (fun h1 => ?_) (fun h1 => ?_)))
 ·refine tr_seq (tr_region (tas rfl (trl_nil (tr_keep (ks := [6]) (.cons rfl .nil) fun base => ?_))))
  refine tr_ret func3 rfl .nil (by kernel_rfl) (.tmp rfl .nil) () rfl trivial (holds_of_picks (by with_reducible repeat constructor))
 ·refine tr_skip (tr_seq ?_)
  have hl3 : l.length ≤ 3 := by simp at h1; omega
  have ho6 : ((1 + (ov % 6).toNat : Nat) : Int) = 1 + ov % 6 := by omega
  refine tr_region (tmv rfl (trl_eff (ef_call rfl rfl call8 (k_within (z := sv) (n := 64) (by decide) (by decide)) (by with_reducible repeat constructor) fun x22 hx22 => ?_)))
  dsimp only [List.cons_append, List.nil_append]
  refine tmv rfl (trl_eff (ef_call rfl rfl call8 (k_within (z := ov) (n := 6) (by decide) (by decide)) (by with_reducible repeat constructor) fun x24 hx24 => ?_))
  dsimp only [List.cons_append, List.nil_append]
  refine trl_pv (pv_conv (pv_addI rfl rfl (by omega) (by omega)) (congrArg (Value.int .i64) (show 1 + ov % 6 = ((1 + (ov % 6).toNat : Nat) : Int) from by omega))) ?_
  refine tas rfl (tas rfl (trl_nil (tr_keep (ks := [0,1,2]) (.cons rfl (.cons rfl (.cons rfl .nil))) fun base => ?_)))
  refine tr_seq (tr_region (tmv rfl (tmv rfl (trl_eff (ef_call rfl rfl call9 (k_make hR (by omega) (style := sv % 64) (by omega) (by omega)) (by with_reducible repeat constructor) fun m hm => ?_)))))
  dsimp only [List.cons_append, List.nil_append]
  refine tmv rfl (trl_pv (pv_extract rfl rfl) (trl_pv (pv_extract rfl rfl) (trl_pv (pv_extract rfl rfl) (trl_pv (pv_extract rfl rfl) (tas rfl (tas rfl (tas rfl (tas rfl (trl_nil ?_)))))))))
  have hm : MkOk m l.length := hm
  have hlok0 := bds_lok (sv % 64) l l.length (1 + (ov % 6).toNat)
  have hrd0 := bds_rd (sv % 64) l l.length
  have hct0 := bds_counts (style := sv % 64) (l := l) (n := l.length)
  have hsp0 := bds_spots (style := sv % 64) (l := l) (n := l.length) hl3
  have hbl0 := bdsAt_length (sv % 64) l l.length
  generalize bdsAt (sv % 64) l l.length = bds0 at *
  refine tr_keep (ks := [1,2,7,9]) (.cons rfl (.cons rfl (.cons rfl (.cons rfl .nil)))) fun base => ?_
  refine tr_seq (tr_seq (tr_region (tas rfl (trl_nil (tr_block (tr_while (α := Nat × List Bd) ((0, bds0)) (fun z => 1 + (ov % 6).toNat - z.1) (fun z => [(1, .int .i64 (sv % 64)), (2, .int .i64 ((1 + (ov % 6).toNat : Nat) : Int)), (7, m.a), (9, m.c), (11, .int .i64 ((z.1 : Nat) : Int))]) (fun z => [pure' (z.1 ≤ 1 + (ov % 6).toNat ∧ LOk (1 + (ov % 6).toNat) z.1 z.2 ∧ (∀ bd ∈ z.2, RdOk bd) ∧ counts z.2 = counts bds0 ∧ z.2.length = l.length), ro W, Sl 43 1 l.length m.a (ptrs m.ga), SLs PB m.ga z.2, Sl 47 1 l.length m.c (ptrs m.gc), SLs RB m.gc z.2]) (ks := [1,2,7,9,11]) (.cons rfl (.cons rfl (.cons rfl (.cons rfl (.cons rfl .nil))))) (holds_pure ⟨Nat.zero_le _, hlok0, hrd0, rfl, hbl0⟩ (holds_of_picks (by with_reducible repeat constructor))) ?_))))))
  intro ⟨k, bds⟩ base ih0
  refine Tr.pure fun ⟨hk, hlok, hrd, hco, hbl⟩ => ?_
  dsimp only at hk hlok hrd hco hbl ⊢
  have hct : ∀ x ∈ counts bds, x ≤ 9 := by rw [hco]; exact hct0
  have hsp : (spotsL (counts bds) 0).length ≤ 100 := by rw [hco]; exact hsp0
  refine tr_seq (tr_seq (tr_region (tmv rfl (tmv rfl (trl_pv (pv_lss rfl rfl) (trl_nil (tr_if rfl (fun h2 => ?_) (fun h2 => ?_))))))))
  ·refine tr_skip (tr_seq (tr_block (tr_seq ?_)))
   have hnx := hlok.next (style := sv % 64) (by omega) (by omega)
   have hnr := encF_rd (style := sv % 64) (layer := k) (by omega) hlok hrd
   refine tr_region (tmv rfl (tmv rfl (tmv rfl (tmv rfl (trl_eff (ef_call rfl rfl call10 (p_enc (G := m.ga) (bds := bds) (style := sv % 64) (count := 1 + (ov % 6).toNat) (layer := k)  hm.la hbl (by omega) hlok hrd (fun n hn => Nat.le_trans (hct n hn) (by decide)) hsp (by omega) (by omega) (by omega) hm.a) (by with_reducible repeat constructor) fun x hx44 => ?_))))))
   dsimp only [List.cons_append, List.nil_append]
   refine tmv rfl (trl_pv (pv_extract rfl rfl) (trl_pv (pv_extract rfl rfl) (tas rfl (tas rfl (trl_nil (tr_keep (ks := [1,2,7,9,11,12,13]) (.cons rfl (.cons rfl (.cons rfl (.cons rfl (.cons rfl (.cons rfl (.cons rfl .nil))))))) fun base => ?_))))))
   refine tr_seq (tr_region (tmv rfl (tmv rfl (tmv rfl (tmv rfl (trl_eff (ef_call rfl rfl call11 (r_enc (G := m.gc) (bds := bds) (style := sv % 64) (count := 1 + (ov % 6).toNat) (layer := k)  hm.lc hbl (by omega) hlok hrd (fun n hn => Nat.le_trans (hct n hn) (by decide)) hsp (by omega) (by omega) (by omega) hm.c) (by with_reducible repeat constructor) fun y hx52 => ?_)))))))
   dsimp only [List.cons_append, List.nil_append]
   refine tmv rfl (trl_pv (pv_extract rfl rfl) (trl_pv (pv_extract rfl rfl) (tas rfl (tas rfl (trl_nil (tr_keep (ks := [1,2,7,9,11,12,13,14,15]) (.cons rfl (.cons rfl (.cons rfl (.cons rfl (.cons rfl (.cons rfl (.cons rfl (.cons rfl (.cons rfl .nil))))))))) fun base => ?_))))))
   refine tr_seq (tr_region (tmv rfl (trl_val (rv_str runUnderlying30 runUnderlying5 runUnderlying9 rfl (by with_reducible repeat constructor) rfl) ?_)))
   refine tmv rfl (trl_val (rv_str runUnderlying30 runUnderlying5 runUnderlying9 rfl (by with_reducible repeat constructor) rfl) ?_)
   refine trl_pv (pv_neq_s rfl rfl) (tmv rfl (trl_pvg rfl (by simp) (pv_move rfl) (trl_valg rfl (by simp) (rv_str runUnderlying30 runUnderlying5 runUnderlying9 rfl (by with_reducible repeat constructor) rfl) ?_)))
   refine trl_pvg rfl (by simp) (pv_move rfl) (trl_valg rfl (by simp) (rv_str runUnderlying30 runUnderlying5 runUnderlying9 rfl (by with_reducible repeat constructor) rfl) ?_)
   refine trl_pvg rfl (by simp) (pv_neq_s rfl rfl) (trl_pv (pv_pick_f rfl (by simp) rfl) ?_)
   refine trl_nil (tr_keep (ks := [1,2,7,9,11,66]) (.cons rfl (.cons rfl (.cons rfl (.cons rfl (.cons rfl (.cons rfl .nil)))))) fun base => ?_)
   refine tr_else rfl (by simp) ?_
   refine tr_skip (tr_inBlock (tr_region (tmv rfl (trl_pv (pv_addI rfl rfl (by omega) (by omega)) ?_))))
   refine tas rfl (trl_nil (tr_again ih0 (k + 1, (encF (sv % 64) (1 + (ov % 6).toNat) k bds).bds) (by first | omega | (dsimp only; omega)) (.cons rfl (.cons rfl (.cons rfl (.cons rfl (.cons rfl .nil))))) (holds_pure ⟨by dsimp only; omega, hnx.1, hnr, hnx.2.trans hco, by have := congrArg List.length hnx.2; simpa [counts, hbl] using this⟩ (holds_of_picks (by with_reducible repeat constructor)))))
  ·refine tr_exit rfl (tr_seq (tr_region (tas rfl (trl_nil (tr_keep (ks := [6]) (.cons rfl .nil) fun base => ?_)))))
   refine tr_ret func3 rfl .nil (by kernel_rfl) (.tmp rfl .nil) () rfl trivial (holds_of_picks (by with_reducible repeat constructor))
end Go.Proofs
