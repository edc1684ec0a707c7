/- Contracts of functions that the law reaches, in every memory (part Pk3). -/
import Derived.Test.YtbmfgngjcpmjeaaGreatPk2
import Derived.Test.YtbmfgngjcpmjeaaGreatPlainC
set_option linter.unusedVariables false
set_option linter.unusedSimpArgs false
set_option maxRecDepth 10000
namespace Go.Proofs
open Go.Eng Tryz
theorem rv_pb {g : Gd} {bd : Bd} {L M : List SL} {k o t ty : Nat} {s : Bs} {u : Value} {x : Operand} {l : List (Nat × Value)} {base : Env} (hA : ∀ w, (isAgg t).run Tryz.prog w = .ok false w) (hx : evO l x = some (.pointer (some ⟨slBase g.v, k * 5 + o, none⟩)))
    (hp : Pick (PB g bd) L M) (hs : bd.ss[k]? = some s) (hu : ∀ gg, (encS (s, gg))[o]? = some u) : ReadV Tryz.prog (.load t x) ty (Eng.look l base) L u := by
  intro F w hw
  obtain ⟨_, hgl, h⟩ := pb_open F w M (hw.perm hp.perm)
  have hk := (List.getElem?_eq_some_iff.1 hs).1
  obtain ⟨gg, hgg⟩ := get_some (l := g.gs) (i := k) (by omega)
  exact rv_load_sl hA hx (Pick.there Pick.here) (sc_get hs hgg (hu gg)) F w h
theorem p_head {g : Gd} {bd : Bd} {s : Bs} {k layer to w : Nat} {style : Int} {bs : List Bool} (hB : BdOk bd) (hs : bd.ss[k]? = some s) (hl : layer ≤ 100) (ht1 : s.said ≤ to) (ht2 : to ≤ s.b.ps.length) (hlen : bs.length + (headF style layer to bd k s).bits.length < 900000000000) :
    Spec Tryz.prog 29 [.agg #[.pointer (some ⟨slBase g.v, k * 5, none⟩), .pointer (some ⟨g.r, 0, none⟩), .int .i64 (k : Nat)], .pointer (some ⟨w, 0, none⟩), .int .i64 style, .int .i64 (layer : Nat), .int .i64 (to : Nat)] [PB g bd, WP w bs]
    (fun _ : Unit => ⟨.tuple #[], True, [PB g { bd with first := (headF style layer to bd k s).first, zeros := (headF style layer to bd k s).zeros, ss := bd.ss.set k { s with lb := (headF style layer to bd k s).lb } }, WP w (bs ++ (headF style layer to bd k s).bits)]⟩) := by
 refine spec_of_tr func29 rfl ntmps29 (by kernel_rfl) ?_
 have hkk := (List.getElem?_eq_some_iff.1 hs).1
 have hso := hB.ss s (List.mem_of_getElem? hs)
 have hp0 := hB.p0
 have hp1 := hB.p1
 have hb0 := hso.b.pl0
 have hb1 := hso.b.pl1
 have hsl := hso.b.len
 have hslb := hso.lb
 have hh1 : bs.length + (head1 layer to bd k s).1.length < 900000000000 := by refine Nat.lt_of_le_of_lt ?_ hlen; unfold headF; split <;> simp only [List.length_append] <;> omega
 refine Tr.unfold pb_open (by with_reducible repeat constructor) fun _ hgl => ?_
 dsimp only [List.cons_append, List.nil_append]
 obtain ⟨gg, hgg⟩ := get_some (l := g.gs) (i := k) (by omega)
 refine tr_seq (tr_region (trl_eff (ef_box rfl (by dsimp only [cellsL, List.toList_toArray]) fun r5 => ?_)))
 refine trl_nil (tr_seq (tr_seq (tr_region (trl_pv (pv_fieldAddr runUnderlying66 rfl sizeOf64 rfl rfl) (trl_val (rv_load isAgg64 rfl (by with_reducible repeat constructor) rfl) ?_)))))
 refine tnc rfl (trl_pv (pv_fieldAddr runUnderlying69 rfl sizeOf3 rfl rfl) (trl_val (rv_load_sl isAgg3 rfl (by with_reducible repeat constructor) (sc_said hs hgg)) ?_))
 refine trl_pv (pv_eql rfl rfl) (trl_nil ?_)
 refine tr_join (α := Unit) (fun _ => [(1, .pointer (some ⟨w, 0, none⟩)), (2, .int .i64 style), (3, .int .i64 (layer : Nat)), (4, .int .i64 (to : Nat)), (5, .pointer (some ⟨r5, 0, none⟩))]) (fun _ => [pt r5 66 [.pointer (some ⟨slBase g.v, k * 5, none⟩), .pointer (some ⟨g.r, 0, none⟩), .int .i64 (k : Nat)], pt g.r 118 [g.v, .int .i64 bd.planes, .pointer (some ⟨g.rF, 0, none⟩), .pointer (some ⟨g.rZ, 0, none⟩), .bool bd.set], Sl 69 5 bd.ss.length g.v (scells bd.ss g.gs), SLs (BP 142 5) g.gs bd.ss, PT g.rF bd.sh (head1 layer to bd k s).2, PT g.rZ bd.sh bd.zeros, WP w (bs ++ (head1 layer to bd k s).1)]) (fun K0 hK0 => ?_) ?_
 ·refine tr_if rfl (fun h0 => ?_) (fun h0 => ?_)
  ·have he1 : head1 layer to bd k s = encT bd.sh bd.first k ((layer + 1 : Nat) : Int) := if_pos (by omega)
   refine tr_draww (rem := [0,1,2,3,4,5,6,7,8,9,10]) (by kernel_rfl) (by kernel_rfl) rfl ?_
   refine trw_pure 0 [1,2,3,4,10] rfl (by kernel_rfl) rfl (pv_fieldAddr runUnderlying66 rfl sizeOf43 rfl rfl) (twm 5 [10] rfl (by kernel_rfl) rfl rfl (trw_pure 6 [7,10] rfl (by kernel_rfl) rfl (pv_fieldAddr runUnderlying66 rfl sizeOf3 rfl rfl) (twm 8 [9,10] rfl (by kernel_rfl) rfl rfl (trw_pure 9 [10] rfl (by kernel_rfl) rfl (pv_conv (pv_addI rfl rfl (by omega) (by omega)) (congrArg (Value.int .i64) (show (layer : Int) + 1 = ((layer + 1 : Nat) : Int) from by omega))) ?_))))
   refine trw_read 1 [2,3,4,10] rfl (by kernel_rfl) rfl (rv_load isAgg43 rfl (by with_reducible repeat constructor) rfl) ?_
   refine twn 2 [3,4,10] rfl (by kernel_rfl) rfl rfl (trw_pure 3 [4,10] rfl (by kernel_rfl) rfl (pv_fieldAddr runUnderlying118 rfl sizeOf112 rfl rfl) (trw_read 4 [10] rfl (by kernel_rfl) rfl (rv_load isAgg112 rfl (by with_reducible repeat constructor) rfl) ?_))
   refine trw_read 7 [10] rfl (by kernel_rfl) rfl (rv_load isAgg3 rfl (by with_reducible repeat constructor) rfl) ?_
   refine trw_one 10 (by kernel_rfl) ?_
   refine trwat_eff rfl rfl rfl (ef_call rfl rfl call73 (tree_encode (sh := bd.sh) (T := bd.first) (bs := bs) (k := (k : Int)) (bound := ((layer + 1 : Nat) : Int)) hB.fine (by rw [← he1]; omega) (by omega)) (by with_reducible repeat constructor) fun x34 hx34 => ?_)
   dsimp only [List.cons_append, List.nil_append]
   refine ⟨?_, trivial⟩
   refine trw_nil (tr_keep (ks := [1,2,3,4,5]) (.cons rfl (.cons rfl (.cons rfl (.cons rfl (.cons rfl .nil))))) fun base => ?_)
   rw [← he1]
   refine tr_meet hK0 () (.cons rfl (.cons rfl (.cons rfl (.cons rfl (.cons rfl .nil))))) (holds_of_picks (by with_reducible repeat constructor))
  ·have he1 : head1 layer to bd k s = ([decide (s.said < to)], bd.first) := if_neg (by omega)
   refine tr_region (tmv rfl (tmv rfl (trl_pv (pv_fieldAddr runUnderlying66 rfl sizeOf64 rfl rfl) (trl_val (rv_load isAgg64 rfl (by with_reducible repeat constructor) rfl) ?_))))
   refine tnc rfl (trl_pv (pv_fieldAddr runUnderlying69 rfl sizeOf3 rfl rfl) (trl_val (rv_load_sl isAgg3 rfl (by with_reducible repeat constructor) (sc_said hs hgg)) ?_))
   refine trl_pv (pv_gtr rfl rfl) (trl_eff (ef_call rfl rfl call27 (p_flag (b := decide ((s.said : Int) < (to : Int)))) (by with_reducible repeat constructor) fun x43 hx43 => ?_))
   dsimp only [List.cons_append, List.nil_append]
   refine trl_eff (ef_call rfl rfl call26 (wp_bits (bs := bs) (by omega)) (by with_reducible repeat constructor) fun x44 hx44 => ?_)
   dsimp only [List.cons_append, List.nil_append]
   refine trl_nil (tr_keep (ks := [1,2,3,4,5]) (.cons rfl (.cons rfl (.cons rfl (.cons rfl (.cons rfl .nil))))) fun base => ?_)
   rw [flag_bits, show decide ((s.said : Int) < (to : Int)) = decide (s.said < to) from by rw [Bool.eq_iff_iff]; simp]
   refine tr_meet hK0 () (.cons rfl (.cons rfl (.cons rfl (.cons rfl (.cons rfl .nil))))) (by rw [he1]; exact holds_of_picks (by with_reducible repeat constructor))
 ·intro y base
  refine tr_seq (tr_seq (tr_region (tmv rfl (trl_pv (pv_fieldAddr runUnderlying66 rfl sizeOf64 rfl rfl) (trl_val (rv_load isAgg64 rfl (by with_reducible repeat constructor) rfl) ?_)))))
  refine tnc rfl (trl_pv (pv_fieldAddr runUnderlying69 rfl sizeOf3 rfl rfl) (trl_val (rv_load_sl isAgg3 rfl (by with_reducible repeat constructor) (sc_said hs hgg)) ?_))
  refine trl_pv (pv_eql rfl rfl) (trl_nil (tr_keep (ks := [1,2,4,5,51]) (.cons rfl (.cons rfl (.cons rfl (.cons rfl (.cons rfl .nil))))) fun base => ?_))
  refine tr_if rfl (fun h1 => ?_) (fun h1 => ?_)
  ·have hd : headF style layer to bd k s = ⟨(head1 layer to bd k s).1, (head1 layer to bd k s).2, bd.zeros, s.lb⟩ := if_pos (by omega)
   rw [hd]
   dsimp only
   rw [show bd.ss.set k { s with lb := s.lb } = bd.ss from by obtain ⟨hk3, rfl⟩ := List.getElem?_eq_some_iff.1 hs; exact List.set_getElem_self hk3]
   refine Tr.fold (pb_fold (g := g) (bd := { bd with first := (head1 layer to bd k s).2 }) (r := g.r) (v := g.v) (p := bd.planes) (rF := g.rF) (rZ := g.rZ) (st := bd.set) (sh := bd.sh) (n := bd.ss.length) (cs := scells bd.ss g.gs) (ss' := bd.ss) (T1 := (head1 layer to bd k s).2) (T2 := bd.zeros) hgl rfl rfl rfl rfl rfl rfl rfl rfl rfl rfl rfl rfl) (by with_reducible repeat constructor) ?_
   refine tr_ret func29 rfl .nil (by kernel_rfl) .nil () rfl trivial (holds_of_picks (by with_reducible repeat constructor))
  ·have hd : headF style layer to bd k s = ⟨(head1 layer to bd k s).1 ++ (head2 bd k s).1 ++ tellBits (((to - s.said : Nat) : Int)) ++ List.replicate ((needF s.lb (segOf style to s)) - s.lb) true ++ [false] ++ sizeBits (needF s.lb (segOf style to s)) (segOf style to s), (head1 layer to bd k s).2, (head2 bd k s).2, (needF s.lb (segOf style to s))⟩ := if_neg (by omega)
   have hlen2 := hlen
   rw [hd] at hlen2 ⊢
   dsimp only at hlen2 ⊢
   simp only [List.length_append, List.length_replicate, List.length_singleton] at hlen2
   refine tr_skip (tr_seq (tr_seq (tr_region (trl_pv (pv_fieldAddr runUnderlying66 rfl sizeOf64 rfl rfl) (trl_val (rv_load isAgg64 rfl (by with_reducible repeat constructor) rfl) ?_)))))
   refine tnc rfl (trl_pv (pv_fieldAddr runUnderlying69 rfl sizeOf3 rfl rfl) (trl_val (rv_load_sl isAgg3 rfl (by with_reducible repeat constructor) (sc_said hs hgg)) ?_))
   refine trl_pv (pv_eql rfl rfl) (trl_nil ?_)
   refine tr_join (α := Unit) (fun _ => [(1, .pointer (some ⟨w, 0, none⟩)), (2, .int .i64 style), (4, .int .i64 (to : Nat)), (5, .pointer (some ⟨r5, 0, none⟩))]) (fun _ => [pt r5 66 [.pointer (some ⟨slBase g.v, k * 5, none⟩), .pointer (some ⟨g.r, 0, none⟩), .int .i64 (k : Nat)], pt g.r 118 [g.v, .int .i64 bd.planes, .pointer (some ⟨g.rF, 0, none⟩), .pointer (some ⟨g.rZ, 0, none⟩), .bool bd.set], Sl 69 5 bd.ss.length g.v (scells bd.ss g.gs), SLs (BP 142 5) g.gs bd.ss, PT g.rF bd.sh (head1 layer to bd k s).2, PT g.rZ bd.sh (head2 bd k s).2, WP w (bs ++ (head1 layer to bd k s).1 ++ (head2 bd k s).1)]) (fun K2 hK2 => ?_) ?_
   ·refine tr_if rfl (fun h2 => ?_) (fun h2 => ?_)
    ·have he2 : head2 bd k s = zlF bd.sh k ((max (bd.planes - s.b.pl) 0).toNat + 1) 1 bd.zeros := if_pos (by omega)
     refine tr_seq (tr_region (tas rfl (trl_nil (tr_keep (ks := [1,2,4,5,10]) (.cons rfl (.cons rfl (.cons rfl (.cons rfl (.cons rfl .nil))))) fun base => ?_))))
     refine tr_block (tr_while (α := Nat × List Nd × List Bool) ((1, bd.zeros, [])) (fun x => (max (bd.planes - s.b.pl) 0).toNat + 2 - x.1) (fun x => [(1, .pointer (some ⟨w, 0, none⟩)), (2, .int .i64 style), (4, .int .i64 (to : Nat)), (5, .pointer (some ⟨r5, 0, none⟩)), (10, .int .i64 (x.1 : Nat))]) (fun x => [pure' (1 ≤ x.1 ∧ x.1 ≤ (max (bd.planes - s.b.pl) 0).toNat + 2 ∧ (head2 bd k s) = (x.2.2 ++ (zlF bd.sh k ((max (bd.planes - s.b.pl) 0).toNat + 2 - x.1) x.1 x.2.1).1, (zlF bd.sh k ((max (bd.planes - s.b.pl) 0).toNat + 2 - x.1) x.1 x.2.1).2)), pt r5 66 [.pointer (some ⟨slBase g.v, k * 5, none⟩), .pointer (some ⟨g.r, 0, none⟩), .int .i64 (k : Nat)], pt g.r 118 [g.v, .int .i64 bd.planes, .pointer (some ⟨g.rF, 0, none⟩), .pointer (some ⟨g.rZ, 0, none⟩), .bool bd.set], Sl 69 5 bd.ss.length g.v (scells bd.ss g.gs), SLs (BP 142 5) g.gs bd.ss, PT g.rF bd.sh (head1 layer to bd k s).2, PT g.rZ bd.sh x.2.1, WP w (bs ++ (head1 layer to bd k s).1 ++ x.2.2)]) (ks := [1,2,4,5,10]) (.cons rfl (.cons rfl (.cons rfl (.cons rfl (.cons rfl .nil))))) (by simp only [List.append_nil]; exact holds_pure ⟨Nat.le_refl _, by omega, by rw [he2]; rfl⟩ (holds_of_picks (by with_reducible repeat constructor))) ?_)
     intro ⟨n, T, b2⟩ base ih0
     refine Tr.pure fun ⟨hn1, hn2, hz⟩ => ?_
     dsimp only at hn1 hn2 hz ⊢
     refine tr_seq (tr_seq (tr_draww (rem := [0,1,2,3,4,5,6,7,8,9,10,11,12,13,14,15]) (by kernel_rfl) (by kernel_rfl) rfl ?_))
     refine twm 0 [15] rfl (by kernel_rfl) rfl rfl (trw_pure 1 [2,3,4,5,12,13,14,15] rfl (by kernel_rfl) rfl (pv_fieldAddr runUnderlying66 rfl sizeOf43 rfl rfl) (trw_pure 6 [7,8,9,10,11,12,13,14,15] rfl (by kernel_rfl) rfl (pv_fieldAddr runUnderlying66 rfl sizeOf64 rfl rfl) (trw_read 2 [3,4,5,12,13,14,15] rfl (by kernel_rfl) rfl (rv_load isAgg43 rfl (by with_reducible repeat constructor) rfl) ?_)))
     refine twn 3 [4,5,12,13,14,15] rfl (by kernel_rfl) rfl rfl (trw_pure 4 [5,12,13,14,15] rfl (by kernel_rfl) rfl (pv_fieldAddr runUnderlying118 rfl sizeOf3 rfl rfl) (trw_read 5 [12,13,14,15] rfl (by kernel_rfl) rfl (rv_load isAgg3 rfl (by with_reducible repeat constructor) rfl) ?_))
     refine trw_read 7 [8,9,10,11,12,13,14,15] rfl (by kernel_rfl) rfl (rv_load isAgg64 rfl (by with_reducible repeat constructor) rfl) ?_
     refine twn 8 [9,10,11,12,13,14,15] rfl (by kernel_rfl) rfl rfl (trw_pure 9 [10,11,12,13,14,15] rfl (by kernel_rfl) rfl (pv_fieldAddr runUnderlying69 rfl sizeOf58 rfl rfl) (trw_pure 10 [11,12,13,14,15] rfl (by kernel_rfl) rfl (pv_fieldAddr runUnderlying58 rfl sizeOf3 rfl rfl) (trw_read 11 [12,13,14,15] rfl (by kernel_rfl) rfl (rv_load_sl isAgg3 rfl (by with_reducible repeat constructor) (sc_pl hs hgg)) ?_)))
     refine trw_pure 12 [13,14,15] rfl (by kernel_rfl) rfl (pv_subI rfl rfl (by show (-9223372036854775808 : Int) ≤ bd.planes - s.b.pl; omega) (by show bd.planes - s.b.pl ≤ (9223372036854775807 : Int); omega)) ?_
     refine trw_pure 13 [14,15] rfl (by kernel_rfl) rfl (pv_maxI rfl rfl) (trw_pure 14 [15] rfl (by kernel_rfl) rfl (pv_conv (pv_addI rfl rfl (by show (-9223372036854775808 : Int) ≤ max (bd.planes - s.b.pl) 0 + 1; omega) (by show max (bd.planes - s.b.pl) 0 + 1 ≤ (9223372036854775807 : Int); omega)) (congrArg (Value.int .i64) (show max (bd.planes - s.b.pl) 0 + 1 = (((max (bd.planes - s.b.pl) 0).toNat + 1 : Nat) : Int) from by omega))) ?_)
     refine trw_pure 15 [] rfl (by kernel_rfl) rfl (pv_leq rfl rfl) (trw_nil (tr_keep (ks := [1,2,4,5,10,73]) (.cons rfl (.cons rfl (.cons rfl (.cons rfl (.cons rfl (.cons rfl .nil)))))) fun base => ?_))
     refine tr_if rfl (fun h3 => ?_) (fun h3 => ?_)
     ·obtain ⟨f, hf⟩ : ∃ f, (max (bd.planes - s.b.pl) 0).toNat + 2 - n = f + 1 := ⟨(max (bd.planes - s.b.pl) 0).toNat + 1 - n, by omega⟩
      have hf2 : (max (bd.planes - s.b.pl) 0).toNat + 2 - (n + 1) = f := by omega
      rw [hf] at hz
      simp only [zlF] at hz
      have hzl := congrArg (fun x => x.1.length) hz
      simp only [List.length_append] at hzl
      refine tr_skip (tr_seq (tr_block (tr_draww (rem := [0,1,2,3,4,5,6,7,8,9]) (by kernel_rfl) (by kernel_rfl) rfl ?_)))
      refine trw_pure 0 [1,2,3,4,9] rfl (by kernel_rfl) rfl (pv_fieldAddr runUnderlying66 rfl sizeOf43 rfl rfl) (twm 5 [9] rfl (by kernel_rfl) rfl rfl (trw_pure 6 [7,9] rfl (by kernel_rfl) rfl (pv_fieldAddr runUnderlying66 rfl sizeOf3 rfl rfl) (twm 8 [9] rfl (by kernel_rfl) rfl rfl (trw_read 1 [2,3,4,9] rfl (by kernel_rfl) rfl (rv_load isAgg43 rfl (by with_reducible repeat constructor) rfl) ?_))))
      refine twn 2 [3,4,9] rfl (by kernel_rfl) rfl rfl (trw_pure 3 [4,9] rfl (by kernel_rfl) rfl (pv_fieldAddr runUnderlying118 rfl sizeOf112 rfl rfl) (trw_read 4 [9] rfl (by kernel_rfl) rfl (rv_load isAgg112 rfl (by with_reducible repeat constructor) rfl) ?_))
      refine trw_read 7 [9] rfl (by kernel_rfl) rfl (rv_load isAgg3 rfl (by with_reducible repeat constructor) rfl) ?_
      refine trw_one 9 (by kernel_rfl) ?_
      refine trwat_eff rfl rfl rfl (ef_call rfl rfl call73 (tree_encode (sh := bd.sh) (T := T) (bs := bs ++ (head1 layer to bd k s).1 ++ b2) (k := (k : Int)) (bound := (n : Int)) hB.fine (by simp only [List.length_append]; omega) (by omega)) (by with_reducible repeat constructor) fun x85 hx85 => ?_)
      dsimp only [List.cons_append, List.nil_append]
      refine ⟨?_, trivial⟩
      refine trw_nil (tr_keep (ks := [1,2,4,5,10]) (.cons rfl (.cons rfl (.cons rfl (.cons rfl (.cons rfl .nil))))) fun base => ?_)
      refine tr_inBlock (tr_region (tmv rfl (trl_pv (pv_addI rfl rfl (by omega) (by omega)) ?_)))
      refine tas rfl (trl_nil (tr_again ih0 (n + 1, (encT bd.sh T k n).2, b2 ++ (encT bd.sh T k n).1) (by first | omega | (dsimp only; omega)) (.cons rfl (.cons rfl (.cons rfl (.cons rfl (.cons (keep_int rfl (by first | omega | (dsimp only; omega))) .nil))))) (by dsimp only; rw [← List.append_assoc]; exact holds_pure ⟨by omega, by omega, by rw [hf2, hz, List.append_assoc]⟩ (holds_of_picks (by with_reducible repeat constructor)))))
     ·refine tr_exit rfl ?_
      obtain rfl : n = (max (bd.planes - s.b.pl) 0).toNat + 2 := by omega
      rw [Nat.sub_self] at hz
      simp only [zlF, List.append_nil] at hz
      refine tr_meet hK2 () (.cons rfl (.cons rfl (.cons rfl (.cons rfl .nil)))) (by rw [hz]; exact holds_of_picks (by with_reducible repeat constructor))
    ·have he2 : head2 bd k s = ([], bd.zeros) := if_neg (by omega)
     refine tr_skip (tr_meet hK2 () (.cons rfl (.cons rfl (.cons rfl (.cons rfl .nil)))) (by rw [he2]; dsimp only; rw [List.append_nil]; exact holds_of_picks (by with_reducible repeat constructor)))
   ·intro y base
    refine tr_seq (tr_region (tmv rfl (tmv rfl (trl_pv (pv_fieldAddr runUnderlying66 rfl sizeOf64 rfl rfl) (trl_val (rv_load isAgg64 rfl (by with_reducible repeat constructor) rfl) ?_)))))
    refine tnc rfl (trl_pv (pv_fieldAddr runUnderlying69 rfl sizeOf3 rfl rfl) (trl_val (rv_load_sl isAgg3 rfl (by with_reducible repeat constructor) (sc_said hs hgg)) ?_))
    refine trl_pv (pv_conv (pv_subI rfl rfl (by show (-9223372036854775808 : Int) ≤ (to : Int) - (s.said : Int); omega) (by show (to : Int) - (s.said : Int) ≤ (9223372036854775807 : Int); omega)) (congrArg (Value.int .i64) (show (to : Int) - (s.said : Int) = ((to - s.said : Nat) : Int) from by omega))) ?_
    refine trl_eff (ef_call rfl rfl call74 (p_tell (bs := bs ++ (head1 layer to bd k s).1 ++ (head2 bd k s).1) (n := ((to - s.said : Nat) : Int)) (by omega) (by omega) (by simp only [List.length_append]; omega)) (by with_reducible repeat constructor) fun x94 hx94 => ?_)
    dsimp only [List.cons_append, List.nil_append]
    refine trl_nil ?_
    refine Tr.fold (pb_fold (g := g) (bd := { bd with first := (head1 layer to bd k s).2, zeros := (head2 bd k s).2 }) (r := g.r) (v := g.v) (p := bd.planes) (rF := g.rF) (rZ := g.rZ) (st := bd.set) (sh := bd.sh) (n := bd.ss.length) (cs := scells bd.ss g.gs) (ss' := bd.ss) (T1 := (head1 layer to bd k s).2) (T2 := (head2 bd k s).2) (by simp [hgl]) rfl rfl rfl rfl rfl rfl (by simp) rfl rfl rfl rfl rfl) (by with_reducible repeat constructor) ?_
    refine tr_keep (ks := [1,2,4,5]) (.cons rfl (.cons rfl (.cons rfl (.cons rfl .nil)))) fun base => ?_
    refine tr_seq (tr_draww (rem := [0,1,2,3,4,5,6,7,8,9,10,11,12,13,14]) (by kernel_rfl) (by kernel_rfl) rfl ?_)
    refine twm 0 [9,10,11,12,13,14] rfl (by kernel_rfl) rfl rfl (trw_pure 1 [2,3,4,5,9,10,11,12,13,14] rfl (by kernel_rfl) rfl (pv_fieldAddr runUnderlying66 rfl sizeOf64 rfl rfl) (twm 6 [9,10,11,12,13,14] rfl (by kernel_rfl) rfl rfl (trw_read 2 [3,4,5,9,10,11,12,13,14] rfl (by kernel_rfl) rfl (rv_load isAgg64 rfl (by with_reducible repeat constructor) rfl) ?_)))
    refine twn 3 [4,5,9,10,11,12,13,14] rfl (by kernel_rfl) rfl rfl (trw_pure 4 [5,9,10,11,12,13,14] rfl (by kernel_rfl) rfl (pv_fieldAddr runUnderlying69 rfl sizeOf3 rfl rfl) (trw_read 5 [9,10,11,12,13,14] rfl (by kernel_rfl) rfl (rv_pb (bd := { bd with first := (head1 layer to bd k s).2, zeros := (head2 bd k s).2 }) (u := .int .i64 (s.said : Int)) isAgg3 rfl (by with_reducible repeat constructor) hs (fun _ => rfl)) ?_))
    refine trw_read 7 [8,9,10,11,12,13,14] rfl (by kernel_rfl) rfl (rv_load_agg isAgg66 sizeOf66 rfl (by with_reducible repeat constructor) rfl) ?_
    refine trw_one 8 (by kernel_rfl) ?_
    refine trwat_eff rfl rfl rfl (ef_call rfl rfl call76 (p_ends_of (g := g) (bd := { bd with first := (head1 layer to bd k s).2, zeros := (head2 bd k s).2 }) (s := s) (k := k) hs hso.b.len) (by with_reducible repeat constructor) fun v104 ho104 => ?_)
    dsimp only [List.cons_append, List.nil_append]
    refine ⟨?_, (rv_pb (bd := { bd with first := (head1 layer to bd k s).2, zeros := (head2 bd k s).2 }) (u := .int .i64 (s.said : Int)) isAgg3 rfl (by with_reducible repeat constructor) hs (fun _ => rfl)), (rv_load isAgg64 rfl (by with_reducible repeat constructor) rfl), trivial⟩
    refine trw_one 9 (by kernel_rfl) ?_
    refine trwat_eff rfl rfl rfl (ef_call rfl rfl call75 (p_segments (style := style) (frm := s.said) (to := to) (ends := endsOf s.b) ht1 (by omega) (by rw [endsOf_length]; exact ht2) hso.b.ends (by rw [endsOf_length]; omega)) (by with_reducible repeat constructor) fun ⟨pv, qv⟩ hpq => ?_)
    dsimp only [List.cons_append, List.nil_append]
    refine ⟨?_, trivial⟩
    refine twm 10 [11,12,13,14] rfl (by kernel_rfl) rfl rfl (trw_pure 11 [13,14] rfl (by kernel_rfl) rfl (pv_extract rfl rfl) (trw_pure 12 [14] rfl (by kernel_rfl) rfl (pv_extract rfl rfl) (trw_pure 13 [14] rfl (by kernel_rfl) rfl (pv_assign rfl) (trw_pure 14 [] rfl (by kernel_rfl) rfl (pv_assign rfl) (trw_nil ?_)))))
    replace hpq : one? pv = true ∧ one? qv = true := hpq
    refine Tr.unfold pb_open (by with_reducible repeat constructor) fun _ _ => ?_
    dsimp only [List.cons_append, List.nil_append]
    have hsgb := segsF_bound (style := style) (frm := s.said) (to := to) hso.b.ends
    have hsgp := segsF_pos hso.b (style := style) ht1 ht2
    have hsgq := segsF_passes (ends := endsOf s.b) (style := style) ht1
    have hsgl := segsF_le style s.said to (endsOf s.b)
    have hndl := needF_le s.lb (segOf style to s) hso.lb hsgb
    have hndg := needF_ge s.lb (segOf style to s)
    rw [show segsF style s.said to (endsOf s.b) = segOf style to s from rfl] at hsgb hsgp hsgq hsgl ⊢
    refine tr_keep (ks := [1,5,11,12]) (.cons rfl (.cons rfl (.cons rfl (.cons rfl .nil)))) fun base => ?_
    refine tr_seq (tr_region (trl_pv (pv_fieldAddr runUnderlying66 rfl sizeOf64 rfl rfl) (trl_val (rv_load isAgg64 rfl (by with_reducible repeat constructor) rfl) ?_)))
    refine tnc rfl (trl_pv (pv_fieldAddr runUnderlying69 rfl sizeOf3 rfl rfl) (trl_val (rv_load_sl isAgg3 rfl (by with_reducible repeat constructor) (sc_lb hs hgg)) ?_))
    refine tas rfl (trl_nil (tr_seq (tr_seq (tr_region (tmv rfl (trl_val (rv_len_sl runUnderlying38 rfl (by with_reducible repeat constructor)) ?_))))))
    refine tmv rfl (trl_nil (tr_block (tr_while (α := Nat) (0) (fun i => (segOf style to s).length - i) (fun i => [(1, .pointer (some ⟨w, 0, none⟩)), (5, .pointer (some ⟨r5, 0, none⟩)), (11, pv), (12, qv), (13, .int .i64 (needF s.lb ((segOf style to s).take i) : Nat)), (113, qv), (114, .int .i64 ((segOf style to s).length : Nat)), (115, .int .i64 (i : Nat))]) (fun i => [pure' (i ≤ (segOf style to s).length), Sl 3 1 (segOf style to s).length pv (nats ((segOf style to s).map (·.1))), Sl 3 1 (segOf style to s).length qv (i64s ((segOf style to s).map (·.2))), pt r5 66 [.pointer (some ⟨slBase g.v, k * 5, none⟩), .pointer (some ⟨g.r, 0, none⟩), .int .i64 (k : Nat)], pt g.r 118 [g.v, .int .i64 bd.planes, .pointer (some ⟨g.rF, 0, none⟩), .pointer (some ⟨g.rZ, 0, none⟩), .bool bd.set], Sl 69 5 bd.ss.length g.v (scells bd.ss g.gs), SLs (BP 142 5) g.gs bd.ss, PT g.rF bd.sh (head1 layer to bd k s).2, PT g.rZ bd.sh (head2 bd k s).2, WP w (bs ++ (head1 layer to bd k s).1 ++ (head2 bd k s).1 ++ tellBits (((to - s.said : Nat) : Int)))]) (ks := [1,5,11,12,13,113,114,115]) (.cons rfl (.cons rfl (.cons rfl (.cons rfl (.cons rfl (.cons rfl (.cons rfl (.cons rfl .nil)))))))) (holds_pure (Nat.zero_le _) (holds_of_picks (by with_reducible repeat constructor))) ?_)))
    intro i base ih1
    refine Tr.pure fun hi => ?_
    refine tr_seq (tr_region (trl_pv (pv_lss rfl rfl) (trl_nil (tr_seq (tr_if rfl (fun h4 => ?_) (fun h4 => ?_))))))
    ·obtain ⟨⟨p, q⟩, hpq2⟩ := get_some (l := (segOf style to s)) (i := i) (by omega)
     have hq0 := hsgp _ (List.mem_of_getElem? hpq2)
     have hq1 := hsgb _ (List.mem_of_getElem? hpq2)
     have hp1 := hsgq _ (List.mem_of_getElem? hpq2)
     dsimp only at hq0 hq1 hp1
     obtain ⟨q, rfl⟩ := Int.eq_ofNat_of_zero_le hq0
     have hqm : ((segOf style to s).map (·.2))[i]? = some (q : Int) := by simp [hpq2]
     have hpm : ((segOf style to s).map (·.1))[i]? = some p := by simp [hpq2]
     have hnx := needF_next (lb := s.lb) hpq2
     have hlq := lg_le40 hq1
     have hlp := lg_le40 (q := (p : Int)) (by omega)
     have hnt := needF_le s.lb ((segOf style to s).take i) hso.lb (fun x hx => hsgb x (List.mem_of_mem_take hx))
     refine tr_skip (tr_seq (tr_block (tr_seq (tr_region (tmv rfl (trl_val (rv_indexAddr_sl runUnderlying38 sizeOf3 rfl rfl (by with_reducible repeat constructor) (by omega) (by omega)) ?_))))))
     refine trl_val (rv_load_sl isAgg3 rfl (by with_reducible repeat constructor) (idx1 (i64s_get hqm))) ?_
     refine tas rfl (tas rfl (trl_nil (tr_seq (tr_region (tmv rfl (trl_pv (pv_gtr rfl rfl) (trl_nil (tr_if rfl (fun h5 => ?_) (fun h5 => ?_)))))))))
     ·refine tr_draww (rem := [0,1,2,3,4,5,6,7,8,9,10,11]) (by kernel_rfl) (by kernel_rfl) rfl ?_
      refine twm 0 [10,11] rfl (by kernel_rfl) rfl rfl (twm 1 [2,3,8,9,10,11] rfl (by kernel_rfl) rfl rfl (twm 4 [6,7,8,9,10,11] rfl (by kernel_rfl) rfl rfl (twm 5 [6,7,8,9,10,11] rfl (by kernel_rfl) rfl rfl (trw_read 6 [7,8,9,10,11] rfl (by kernel_rfl) rfl (rv_indexAddr_sl runUnderlying38 sizeOf3 rfl rfl (by with_reducible repeat constructor) (by omega) (by simp; omega)) ?_))))
      refine trw_read 7 [8,9,10,11] rfl (by kernel_rfl) rfl (rv_load_sl isAgg3 rfl (by with_reducible repeat constructor) (idx1 (nats_get hpm))) ?_
      refine trw_one 2 (by kernel_rfl) ?_
      refine trwat_eff rfl rfl rfl (ef_call rfl rfl call77 (p_log (n := q) (by omega)) (by with_reducible repeat constructor) fun x124 hx124 => ?_)
      dsimp only [List.cons_append, List.nil_append]
      refine ⟨?_, (rv_load_sl isAgg3 rfl (by with_reducible repeat constructor) (idx1 (nats_get hpm))), (rv_indexAddr_sl runUnderlying38 sizeOf3 rfl rfl (by with_reducible repeat constructor) (by omega) (by simp; omega)), trivial⟩
      refine trw_pure 3 [9,10,11] rfl (by kernel_rfl) rfl (pv_addI rfl rfl (by omega) (by omega)) ?_
      refine trw_one 8 (by kernel_rfl) ?_
      refine trwat_eff rfl rfl rfl (ef_call rfl rfl call77 (p_log (n := p) (by omega)) (by with_reducible repeat constructor) fun x130 hx130 => ?_)
      dsimp only [List.cons_append, List.nil_append]
      refine ⟨?_, trivial⟩
      refine trw_pure 9 [10,11] rfl (by kernel_rfl) rfl (pv_subI rfl rfl (by omega) (by omega)) ?_
      refine trw_pure 10 [11] rfl (by kernel_rfl) rfl (pv_conv (pv_maxI rfl rfl) (congrArg (Value.int .i64) (show max ((needF s.lb ((segOf style to s).take i) : Nat) : Int) ((lg (q : Int) : Nat) + 1 - (lg (p : Int) : Nat)) = ((max (needF s.lb ((segOf style to s).take i)) (lg (q : Int) + 1 - lg (p : Int)) : Nat) : Int) from by omega))) (trw_pure 11 [] rfl (by kernel_rfl) rfl (pv_assign rfl) (trw_nil (tr_keep (ks := [1,5,11,12,13,113,114,115]) (.cons rfl (.cons rfl (.cons rfl (.cons rfl (.cons rfl (.cons rfl (.cons rfl (.cons rfl .nil)))))))) fun base => ?_)))
      refine tr_inBlock (tr_region (trl_pv (pv_addI rfl rfl (by omega) (by omega)) ?_))
      refine tmv rfl (trl_nil (tr_again ih1 (i + 1) (by first | omega | (dsimp only; omega)) (.cons rfl (.cons rfl (.cons rfl (.cons rfl (.cons (keep_int rfl (by rw [hnx, if_pos (by omega)])) (.cons rfl (.cons rfl (.cons (keep_int rfl (by omega)) .nil)))))))) (holds_pure (by omega) (holds_of_picks (by with_reducible repeat constructor)))))
     ·refine tr_skip (tr_inBlock (tr_region (trl_pv (pv_addI rfl rfl (by omega) (by omega)) ?_)))
      refine tmv rfl (trl_nil (tr_keep (ks := [1,5,11,12,13,113,114,115]) (.cons rfl (.cons rfl (.cons rfl (.cons rfl (.cons rfl (.cons rfl (.cons rfl (.cons rfl .nil)))))))) fun base => ?_))
      refine tr_again ih1 (i + 1) (by first | omega | (dsimp only; omega)) (.cons rfl (.cons rfl (.cons rfl (.cons rfl (.cons (keep_int rfl (by rw [hnx, if_neg (by omega)])) (.cons rfl (.cons rfl (.cons (keep_int rfl (by omega)) .nil)))))))) (holds_pure (by omega) (holds_of_picks (by with_reducible repeat constructor)))
    ·refine tr_exit rfl (tr_seq (tr_block (tr_while (α := Nat) (s.lb) (fun j => (needF s.lb (segOf style to s)) - j) (fun j => [(1, .pointer (some ⟨w, 0, none⟩)), (5, .pointer (some ⟨r5, 0, none⟩)), (11, pv), (12, qv), (13, .int .i64 ((needF s.lb (segOf style to s)) : Nat))]) (fun j => [pure' (s.lb ≤ j ∧ j ≤ (needF s.lb (segOf style to s))), Sl 3 1 (segOf style to s).length pv (nats ((segOf style to s).map (·.1))), Sl 3 1 (segOf style to s).length qv (i64s ((segOf style to s).map (·.2))), pt r5 66 [.pointer (some ⟨slBase g.v, k * 5, none⟩), .pointer (some ⟨g.r, 0, none⟩), .int .i64 (k : Nat)], pt g.r 118 [g.v, .int .i64 bd.planes, .pointer (some ⟨g.rF, 0, none⟩), .pointer (some ⟨g.rZ, 0, none⟩), .bool bd.set], Sl 69 5 bd.ss.length g.v (scells (bd.ss.set k { s with lb := j }) g.gs), SLs (BP 142 5) g.gs bd.ss, PT g.rF bd.sh (head1 layer to bd k s).2, PT g.rZ bd.sh (head2 bd k s).2, WP w (bs ++ (head1 layer to bd k s).1 ++ (head2 bd k s).1 ++ tellBits (((to - s.said : Nat) : Int)) ++ List.replicate (j - s.lb) true)]) (ks := [1,5,11,12,13]) (.cons rfl (.cons rfl (.cons rfl (.cons rfl (.cons (keep_int rfl (by rw [List.take_of_length_le (by omega)])) .nil))))) (by rw [show bd.ss.set k { s with lb := s.lb } = bd.ss from by obtain ⟨hk3, rfl⟩ := List.getElem?_eq_some_iff.1 hs; exact List.set_getElem_self hk3, Nat.sub_self, List.replicate_zero, List.append_nil]; exact holds_pure ⟨Nat.le_refl _, hndg⟩ (holds_of_picks (by with_reducible repeat constructor))) ?_)))
     intro j base ih2
     refine Tr.pure fun ⟨hj1, hj2⟩ => ?_
     have hsj : (bd.ss.set k { s with lb := j })[k]? = some { s with lb := j } := by rw [List.getElem?_set_self hkk]
     have hcj : (scells (bd.ss.set k { s with lb := j }) g.gs)[k * 5 + 4]? = some (.int .i64 (j : Int)) := sc_lb hsj hgg
     refine tr_seq (tr_seq (tr_region (trl_pv (pv_fieldAddr runUnderlying66 rfl sizeOf64 rfl rfl) (trl_val (rv_load isAgg64 rfl (by with_reducible repeat constructor) rfl) ?_))))
     refine tnc rfl (trl_pv (pv_fieldAddr runUnderlying69 rfl sizeOf3 rfl rfl) (trl_val (rv_load_sl isAgg3 rfl (by with_reducible repeat constructor) hcj) ?_))
     refine tmv rfl (trl_pv (pv_lss rfl rfl) (trl_nil (tr_if rfl (fun h6 => ?_) (fun h6 => ?_))))
     ·refine tr_skip (tr_seq (tr_block (tr_region (tmv rfl (trl_eff (ef_call rfl rfl call71 (wp_bit (bs := bs ++ (head1 layer to bd k s).1 ++ (head2 bd k s).1 ++ tellBits (((to - s.said : Nat) : Int)) ++ List.replicate (j - s.lb) true) (by simp only [List.length_append, List.length_replicate]; omega)) (by with_reducible repeat constructor) fun x150 hx150 => ?_))))))
      dsimp only [List.cons_append, List.nil_append]
      refine trl_nil ?_
      rw [show decide ((1 : Int) % 2 = 1) = true from rfl]
      refine tr_keep (ks := [1,5,11,12,13]) (.cons rfl (.cons rfl (.cons rfl (.cons rfl (.cons rfl .nil))))) fun base => ?_
      refine tr_inBlock (tr_region (trl_pv (pv_fieldAddr runUnderlying66 rfl sizeOf64 rfl rfl) (trl_val (rv_load isAgg64 rfl (by with_reducible repeat constructor) rfl) ?_)))
      refine tnc rfl (trl_pv (pv_fieldAddr runUnderlying69 rfl sizeOf3 rfl rfl) (trl_val (rv_load_sl isAgg3 rfl (by with_reducible repeat constructor) hcj) ?_))
      refine trl_pv (pv_conv (pv_addI rfl rfl (by show (-9223372036854775808 : Int) ≤ (j : Int) + 1; omega) (by show (j : Int) + 1 ≤ (9223372036854775807 : Int); omega)) (congrArg (Value.int .i64) (show (j : Int) + 1 = ((j + 1 : Nat) : Int) from by omega))) ?_
      refine tnc rfl (trl_pv (pv_fieldAddr runUnderlying69 rfl sizeOf3 rfl rfl) (trl_eff0 (ef_store_sl sizeOf3 rfl rfl (by first | rfl | assumption) (by with_reducible repeat constructor) (sc_lt (by simp [hgl]) (by simp [hkk]) (by decide)) (sc_set (s' := { s with lb := j + 1 }) hsj hgg (by decide) rfl) ?_)))
      refine trl_nil ?_
      rw [List.set_set]
      refine tr_keep (ks := [1,5,11,12,13]) (.cons rfl (.cons rfl (.cons rfl (.cons rfl (.cons rfl .nil))))) fun base => ?_
      refine tr_again ih2 (j + 1) (by first | omega | (dsimp only; omega)) (.cons rfl (.cons rfl (.cons rfl (.cons rfl (.cons rfl .nil))))) (by rw [show j + 1 - s.lb = (j - s.lb) + 1 by omega, List.replicate_succ', ← List.append_assoc]; exact holds_pure ⟨by omega, by omega⟩ (holds_of_picks (by with_reducible repeat constructor)))
     ·refine tr_exit rfl (tr_seq ?_)
      obtain rfl : j = (needF s.lb (segOf style to s)) := by omega
      refine tr_region (tmv rfl (trl_eff (ef_call rfl rfl call71 (wp_bit (bs := bs ++ (head1 layer to bd k s).1 ++ (head2 bd k s).1 ++ tellBits (((to - s.said : Nat) : Int)) ++ List.replicate ((needF s.lb (segOf style to s)) - s.lb) true) (by simp only [List.length_append, List.length_replicate]; omega)) (by with_reducible repeat constructor) fun x152 hx152 => ?_)))
      dsimp only [List.cons_append, List.nil_append]
      refine trl_nil ?_
      rw [show decide ((0 : Int) % 2 = 1) = false from rfl]
      refine tr_keep (ks := [1,5,11,12]) (.cons rfl (.cons rfl (.cons rfl (.cons rfl .nil)))) fun base => ?_
      refine tr_seq (tr_region (tmv rfl (trl_val (rv_len_sl runUnderlying38 rfl (by with_reducible repeat constructor)) ?_)))
      refine tmv rfl (trl_nil (tr_block (tr_while (α := Nat) (0) (fun i => (segOf style to s).length - i) (fun i => [(1, .pointer (some ⟨w, 0, none⟩)), (5, .pointer (some ⟨r5, 0, none⟩)), (11, pv), (153, qv), (154, .int .i64 ((segOf style to s).length : Nat)), (155, .int .i64 (i : Nat))]) (fun i => [pure' (i ≤ (segOf style to s).length), Sl 3 1 (segOf style to s).length pv (nats ((segOf style to s).map (·.1))), Sl 3 1 (segOf style to s).length qv (i64s ((segOf style to s).map (·.2))), pt r5 66 [.pointer (some ⟨slBase g.v, k * 5, none⟩), .pointer (some ⟨g.r, 0, none⟩), .int .i64 (k : Nat)], pt g.r 118 [g.v, .int .i64 bd.planes, .pointer (some ⟨g.rF, 0, none⟩), .pointer (some ⟨g.rZ, 0, none⟩), .bool bd.set], Sl 69 5 bd.ss.length g.v (scells (bd.ss.set k { s with lb := (needF s.lb (segOf style to s)) }) g.gs), SLs (BP 142 5) g.gs bd.ss, PT g.rF bd.sh (head1 layer to bd k s).2, PT g.rZ bd.sh (head2 bd k s).2, WP w (bs ++ (head1 layer to bd k s).1 ++ (head2 bd k s).1 ++ tellBits (((to - s.said : Nat) : Int)) ++ List.replicate ((needF s.lb (segOf style to s)) - s.lb) true ++ [false] ++ sizeBits (needF s.lb (segOf style to s)) ((segOf style to s).take i))]) (ks := [1,5,11,153,154,155]) (.cons rfl (.cons rfl (.cons rfl (.cons rfl (.cons rfl (.cons rfl .nil)))))) (by rw [show sizeBits (needF s.lb (segOf style to s)) ((segOf style to s).take 0) = [] from rfl, List.append_nil]; exact holds_pure (Nat.zero_le _) (holds_of_picks (by with_reducible repeat constructor))) ?_)))
      intro i base ih3
      refine Tr.pure fun hi => ?_
      refine tr_seq (tr_region (trl_pv (pv_lss rfl rfl) (trl_nil (tr_seq (tr_if rfl (fun h7 => ?_) (fun h7 => ?_))))))
      ·obtain ⟨⟨p, q⟩, hpq2⟩ := get_some (l := (segOf style to s)) (i := i) (by omega)
       have hp1 := hsgq _ (List.mem_of_getElem? hpq2)
       dsimp only at hp1
       have hqm : ((segOf style to s).map (·.2))[i]? = some q := by simp [hpq2]
       have hpm : ((segOf style to s).map (·.1))[i]? = some p := by simp [hpq2]
       have hnx := sizeBits_next (nd := (needF s.lb (segOf style to s))) hpq2
       have hszl := sizeBits_take_le (needF s.lb (segOf style to s)) (segOf style to s) i
       have hlp := lg_le40 (q := (p : Int)) (by omega)
       refine tr_skip (tr_seq (tr_block (tr_seq (tr_region (tmv rfl (trl_val (rv_indexAddr_sl runUnderlying38 sizeOf3 rfl rfl (by with_reducible repeat constructor) (by omega) (by omega)) ?_))))))
       refine trl_val (rv_load_sl isAgg3 rfl (by with_reducible repeat constructor) (idx1 (i64s_get hqm))) ?_
       refine tas rfl (tas rfl (trl_nil (tr_draww (rem := [0,1,2,3,4,5,6,7,8,9,10,11,12,13]) (by kernel_rfl) (by kernel_rfl) rfl ?_)))
       refine twm 0 [13] rfl (by kernel_rfl) rfl rfl (twm 1 [13] rfl (by kernel_rfl) rfl rfl (trw_pure 2 [3,4,5,6,12,13] rfl (by kernel_rfl) rfl (pv_fieldAddr runUnderlying66 rfl sizeOf64 rfl rfl) (twm 7 [9,10,11,12,13] rfl (by kernel_rfl) rfl rfl (twm 8 [9,10,11,12,13] rfl (by kernel_rfl) rfl rfl (trw_read 3 [4,5,6,12,13] rfl (by kernel_rfl) rfl (rv_load isAgg64 rfl (by with_reducible repeat constructor) rfl) ?_)))))
       refine twn 4 [5,6,12,13] rfl (by kernel_rfl) rfl rfl (trw_pure 5 [6,12,13] rfl (by kernel_rfl) rfl (pv_fieldAddr runUnderlying69 rfl sizeOf3 rfl rfl) (trw_read 6 [12,13] rfl (by kernel_rfl) rfl (rv_load_sl isAgg3 rfl (by with_reducible repeat constructor) hcj) ?_))
       refine trw_read 9 [10,11,12,13] rfl (by kernel_rfl) rfl (rv_indexAddr_sl runUnderlying38 sizeOf3 rfl rfl (by with_reducible repeat constructor) (by omega) (by simp; omega)) ?_
       refine trw_read 10 [11,12,13] rfl (by kernel_rfl) rfl (rv_load_sl isAgg3 rfl (by with_reducible repeat constructor) (idx1 (nats_get hpm))) ?_
       refine trw_one 11 (by kernel_rfl) ?_
       refine trwat_eff rfl rfl rfl (ef_call rfl rfl call77 (p_log (n := p) (by omega)) (by with_reducible repeat constructor) fun x171 hx171 => ?_)
       dsimp only [List.cons_append, List.nil_append]
       refine ⟨?_, (rv_load_sl isAgg3 rfl (by with_reducible repeat constructor) hcj), (rv_load isAgg64 rfl (by with_reducible repeat constructor) rfl), trivial⟩
       refine trw_pure 12 [13] rfl (by kernel_rfl) rfl (pv_conv (pv_addI rfl rfl (by show (-9223372036854775808 : Int) ≤ (((needF s.lb (segOf style to s)) : Nat) : Int) + ((lg (p : Int) : Nat) : Int); omega) (by show (((needF s.lb (segOf style to s)) : Nat) : Int) + ((lg (p : Int) : Nat) : Int) ≤ (9223372036854775807 : Int); omega)) (congrArg (Value.int .i64) (show (((needF s.lb (segOf style to s)) : Nat) : Int) + ((lg (p : Int) : Nat) : Int) = (((needF s.lb (segOf style to s)) + lg (p : Int) : Nat) : Int) from by simp))) ?_
       refine trw_one 13 (by kernel_rfl) ?_
       refine trwat_eff rfl rfl rfl (ef_call rfl rfl call26 (wp_bits (bs := bs ++ (head1 layer to bd k s).1 ++ (head2 bd k s).1 ++ tellBits (((to - s.said : Nat) : Int)) ++ List.replicate ((needF s.lb (segOf style to s)) - s.lb) true ++ [false] ++ sizeBits (needF s.lb (segOf style to s)) ((segOf style to s).take i)) (by simp only [List.length_append, List.length_replicate, List.length_singleton]; omega)) (by with_reducible repeat constructor) fun x173 hx173 => ?_)
       dsimp only [List.cons_append, List.nil_append]
       refine ⟨?_, trivial⟩
       refine trw_nil (tr_keep (ks := [1,5,11,153,154,155]) (.cons rfl (.cons rfl (.cons rfl (.cons rfl (.cons rfl (.cons rfl .nil)))))) fun base => ?_)
       refine tr_inBlock (tr_region (trl_pv (pv_addI rfl rfl (by omega) (by omega)) ?_))
       refine tmv rfl (trl_nil (tr_again ih3 (i + 1) (by first | omega | (dsimp only; omega)) (.cons rfl (.cons rfl (.cons rfl (.cons rfl (.cons rfl (.cons (keep_int rfl (by omega)) .nil)))))) (by rw [hnx, ← List.append_assoc]; exact holds_pure (by omega) (holds_of_picks (by with_reducible repeat constructor)))))
      ·refine tr_exit rfl ?_
       rw [List.take_of_length_le (show (segOf style to s).length ≤ i by omega)]
       refine Tr.fold (pb_fold (g := g) (bd := { bd with first := (head1 layer to bd k s).2, zeros := (head2 bd k s).2, ss := bd.ss.set k { s with lb := (needF s.lb (segOf style to s)) } }) (r := g.r) (v := g.v) (p := bd.planes) (rF := g.rF) (rZ := g.rZ) (st := bd.set) (sh := bd.sh) (n := bd.ss.length) (cs := scells (bd.ss.set k { s with lb := (needF s.lb (segOf style to s)) }) g.gs) (ss' := bd.ss) (T1 := (head1 layer to bd k s).2) (T2 := (head2 bd k s).2) (by simp [hgl]) rfl rfl rfl rfl rfl rfl (by simp) rfl (map_b_set (s' := { s with lb := (needF s.lb (segOf style to s)) }) hs rfl).symm rfl rfl rfl) (by with_reducible repeat constructor) ?_
       refine tr_end func29 rfl .nil (by kernel_rfl) .nil () rfl trivial (by simp only [← List.append_assoc]; exact holds_of_picks (by with_reducible repeat constructor))
end Go.Proofs
