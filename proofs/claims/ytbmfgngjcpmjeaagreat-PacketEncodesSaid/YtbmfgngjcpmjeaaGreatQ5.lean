/- Contracts of functions that the law reaches, in every memory (part Q5). -/
import Derived.Test.YtbmfgngjcpmjeaaGreatQ4
import Derived.Test.YtbmfgngjcpmjeaaGreatPlainD
set_option linter.unusedVariables false
set_option linter.unusedSimpArgs false
set_option maxRecDepth 10000
namespace Go.Proofs
open Go.Eng Tryz
structure Cg where
  r : Nat
  w : Nat
  h : Nat
  band : Int
  style : Int
  m : Value
  n : Value
  s : Value
  e : Value
  a : Value
  raw : Bool
  rE : Nat
  rW : Nat
  mag : List Int
abbrev Cg.p (g : Cg) : Value := .pointer (some ⟨g.r, 0, none⟩)
structure GOk (g : Cg) : Prop where
  m : SlV g.m (g.w * g.h)
  n : SlV g.n (g.w * g.h)
  s : SlV g.s (g.w * g.h)
  e : SlV g.e (g.w * g.h)
  a : SlV g.a (g.w * g.h)
  w1 : 1 ≤ g.w
  w2 : g.w ≤ 64
  h1 : 1 ≤ g.h
  h2 : g.h ≤ 64
structure Fit (g : Cg) (c : Cd) (k : Nat) : Prop where
  ok : CdOk c
  w : c.w = g.w
  h : c.h = g.h
  band : c.band = g.band
  style : c.style = g.style
  raw : c.raw = g.raw
  mag : c.mag = g.mag
  le : c.e.b.length + k ≤ 800000000000
  lr : c.rw.b.length + k ≤ 800000000000
theorem Fit.adv {g : Cg} {c c' : Cd} {k m n : Nat} (h : Fit g c k) (ha : Adv c c' m) (hk : n + m ≤ k) : Fit g c' n :=
  ⟨ha.ok, ha.w.trans h.w, ha.h.trans h.h, ha.band.trans h.band, ha.style.trans h.style, ha.raw.trans h.raw, ha.mag.trans h.mag, by have := h.le; have := ha.e1; omega, by have := h.lr; have := ha.r1; omega⟩
theorem Fit.less {g : Cg} {c : Cd} {k n : Nat} (h : Fit g c k) (hk : n ≤ k) : Fit g c n := ⟨h.ok, h.w, h.h, h.band, h.style, h.raw, h.mag, by have := h.le; omega, by have := h.lr; omega⟩
def putN (c : Cd) (l : List Int) : Cd := { c with neg := l }
def putS (c : Cd) (l : List Bool) : Cd := { c with sig := l }
def putE (c : Cd) (l : List Bool) : Cd := { c with seen := l }
def putA (c : Cd) (l : List Bool) : Cd := { c with again := l }
theorem Fit.putN {g : Cg} {c : Cd} {k : Nat} (h : Fit g c k) (j : Nat) (x : Int) : Fit g (putN c (c.neg.set j x)) k := ⟨⟨h.ok.w1, h.ok.w2, h.ok.h1, h.ok.h2, h.ok.mag, by rw [show (Go.Proofs.putN c (c.neg.set j x)).neg = c.neg.set j x from rfl, List.length_set]; exact h.ok.neg, h.ok.sig, h.ok.seen, h.ok.again, h.ok.cx, h.ok.e, h.ok.rw⟩, h.w, h.h, h.band, h.style, h.raw, h.mag, h.le, h.lr⟩
def cdH (g : Cg) : List Value := [.int .i64 (g.w : Nat), .int .i64 (g.h : Nat), .int .i64 g.band, .int .i64 g.style, g.m, g.n, g.s, g.e, g.a]
def cdT (g : Cg) : List Value := [.bool true, .bool g.raw, .pointer (some ⟨g.rE, 0, none⟩), .pointer (some ⟨g.rW, 0, none⟩), .pointer none, .pointer none]
def cdC (g : Cg) (cx : Cxs) : List Value := cdH g ++ cxC cx ++ cdT g
def cdP (g : Cg) (c : Cd) : List SL := [pt g.r 133 (cdC g c.cx), Sl 3 1 (g.w * g.h) g.m (i64s g.mag), Sl 3 1 (g.w * g.h) g.n (i64s c.neg), Sl 4 1 (g.w * g.h) g.s (bools c.sig), Sl 4 1 (g.w * g.h) g.e (bools c.seen), Sl 4 1 (g.w * g.h) g.a (bools c.again), ME g.rE c.e, RW5 g.rW c.rw]
def CD (g : Cg) (c : Cd) : SL := stars (cdP g c)
theorem cd_open {g : Cg} {c : Cd} : Unfold (CD g c) (fun _ : Unit => True) (fun _ => cdP g c) := fun F w N h => ⟨(), trivial, Holds.stars.1 h⟩
theorem cd_fold {g : Cg} {c : Cd} : Fold (cdP g c) (CD g c) := fun F w N h => Holds.stars.2 h
theorem cd_tail {g : Cg} {c : Cd} {k j : Nat} (hf : Fit g c k) : (cdC g c.cx)[47 + j]? = (cdT g)[j]? := by
  have h1 : (cdH g ++ cxC c.cx).length = 47 := by rw [List.length_append, cxC_length, hf.ok.cx.1]; rfl
  unfold cdC
  rw [List.getElem?_append_right (by omega), h1, Nat.add_sub_cancel_left]
theorem cd_at10 {g : Cg} {c : Cd} {k : Nat} (hf : Fit g c k) : (cdC g c.cx)[47]? = some (.bool true) := cd_tail (j := 0) hf
theorem cd_at11 {g : Cg} {c : Cd} {k : Nat} (hf : Fit g c k) : (cdC g c.cx)[48]? = some (.bool g.raw) := cd_tail (j := 1) hf
theorem cd_at12 {g : Cg} {c : Cd} {k : Nat} (hf : Fit g c k) : (cdC g c.cx)[49]? = some (.pointer (some ⟨g.rE, 0, none⟩)) := cd_tail (j := 2) hf
theorem cd_at13 {g : Cg} {c : Cd} {k : Nat} (hf : Fit g c k) : (cdC g c.cx)[50]? = some (.pointer (some ⟨g.rW, 0, none⟩)) := cd_tail (j := 3) hf
theorem i64s_at {l : List Int} {j : Nat} (h : j < l.length) : (i64s l)[((j : Nat) : Int).toNat * 1]? = some (.int .i64 (l.getD j 0)) := by
  refine idx1 ?_
  unfold i64s
  rw [List.getElem?_map, List.getD_eq_getElem?_getD, List.getElem?_eq_getElem h]; rfl
theorem bools_at {l : List Bool} {j : Nat} (h : j < l.length) : (bools l)[((j : Nat) : Int).toNat * 1]? = some (.bool (l.getD j false)) := by
  refine idx1 ?_
  unfold bools
  rw [List.getElem?_map, List.getD_eq_getElem?_getD, List.getElem?_eq_getElem h]; rfl
theorem i64s_put {l : List Int} {j : Nat} {x : Int} : (i64s l).set (((j : Nat) : Int).toNat * 1) (.int .i64 x) = i64s (l.set j x) := by simp [i64s, List.map_set]
theorem bools_put {l : List Bool} {j : Nat} {x : Bool} : (bools l).set (((j : Nat) : Int).toNat * 1) (.bool x) = bools (l.set j x) := by simp [bools, List.map_set]
theorem cdm_at {g : Cg} {c : Cd} {k j : Nat} (hf : Fit g c k) (hj : j < g.w * g.h) : (i64s g.mag)[((j : Nat) : Int).toNat * 1]? = some (.int .i64 (g.mag.getD j 0)) := i64s_at (by rw [← hf.mag, hf.ok.mag, hf.w, hf.h]; exact hj)
theorem cdn_at {g : Cg} {c : Cd} {k j : Nat} (hf : Fit g c k) (hj : j < g.w * g.h) : (i64s c.neg)[((j : Nat) : Int).toNat * 1]? = some (.int .i64 (c.neg.getD j 0)) := i64s_at (by rw [hf.ok.neg, hf.w, hf.h]; exact hj)
theorem cds_at {g : Cg} {c : Cd} {k j : Nat} (hf : Fit g c k) (hj : j < g.w * g.h) : (bools c.sig)[((j : Nat) : Int).toNat * 1]? = some (.bool (c.sig.getD j false)) := bools_at (by rw [hf.ok.sig, hf.w, hf.h]; exact hj)
theorem cde_at {g : Cg} {c : Cd} {k j : Nat} (hf : Fit g c k) (hj : j < g.w * g.h) : (bools c.seen)[((j : Nat) : Int).toNat * 1]? = some (.bool (c.seen.getD j false)) := bools_at (by rw [hf.ok.seen, hf.w, hf.h]; exact hj)
theorem cda_at {g : Cg} {c : Cd} {k j : Nat} (hf : Fit g c k) (hj : j < g.w * g.h) : (bools c.again)[((j : Nat) : Int).toNat * 1]? = some (.bool (c.again.getD j false)) := bools_at (by rw [hf.ok.again, hf.w, hf.h]; exact hj)
section
variable {P : Program} {ty t : TypeId} {l : List (Nat × Value)} {base : Env} {L M : List SL} {x y : Operand} {K : Value → List SL → Prop} {g : Cg} {c : Cd} {k o j : Nat} {u : Value}
theorem rv_cd (hA : ∀ w, (isAgg t).run P w = .ok false w) (hx : evO l x = some (.pointer (some ⟨g.r, o, none⟩))) (hp : Pick (CD g c) L M) (hc : (cdC g c.cx)[o]? = some u) : ReadV P (.load t x) ty (Eng.look l base) L u :=
  ReadV.unfold cd_open hp fun _ _ => rv_load hA hx .here hc
theorem rv_cdm (hA : ∀ w, (isAgg t).run P w = .ok false w) (hx : evO l x = some (.pointer (some ⟨slBase g.m, o, none⟩))) (hp : Pick (CD g c) L M) (hc : (i64s g.mag)[o]? = some u) : ReadV P (.load t x) ty (Eng.look l base) L u :=
  ReadV.unfold cd_open hp fun _ _ => rv_load_sl (e := 3) (sz := 1) (n := g.w * g.h) (cells := i64s g.mag) hA hx (.there .here) hc
theorem rv_cdn (hA : ∀ w, (isAgg t).run P w = .ok false w) (hx : evO l x = some (.pointer (some ⟨slBase g.n, o, none⟩))) (hp : Pick (CD g c) L M) (hc : (i64s c.neg)[o]? = some u) : ReadV P (.load t x) ty (Eng.look l base) L u :=
  ReadV.unfold cd_open hp fun _ _ => rv_load_sl (e := 3) (sz := 1) (n := g.w * g.h) (cells := i64s c.neg) hA hx (.there (.there .here)) hc
theorem ef_cdn {b : Int} (hz : ∀ w, (sizeOf t).run P w = .ok 1 w) (hx : evO l x = some (.pointer (some ⟨slBase g.n, ((j : Nat) : Int).toNat * 1, none⟩))) (hy : evO l y = some (.int .i64 b)) (hp : Pick (CD g c) L M) (hf : Fit g c k) (hj : j < g.w * g.h)
    (hk : K undef (CD g (putN c (c.neg.set j b)) :: M)) : EffT P (.store t x y) ty (Eng.look l base) L K := by
  refine EffT.fold (EffT.unfold (K := fun v L' => v = undef ∧ ∀ F w, Holds L' F w → Holds (CD g (putN c (c.neg.set j b)) :: M) F w) cd_open hp fun _ _ => ?_) (fun v L' h => ⟨_, by rw [h.1]; exact hk, h.2⟩)
  dsimp only [cdP, List.cons_append, List.nil_append]
  refine ef_store_sl (e := 3) (sz := 1) (n := g.w * g.h) (cells := i64s c.neg) hz hx hy rfl (.there (.there .here)) (by unfold i64s; rw [List.length_map, hf.ok.neg, hf.w, hf.h]; omega) i64s_put ⟨rfl, fun F w hw => cd_fold F w M ?_⟩
  exact hw.perm (Picks.perm (As := cdP g (putN c (c.neg.set j b))) (by dsimp only [cdP, putN, List.cons_append, List.nil_append]; exact (by repeat (first | with_reducible exact .nil | with_reducible exact .here | apply Picks.cons | apply Pick.there))))
theorem rv_cds (hA : ∀ w, (isAgg t).run P w = .ok false w) (hx : evO l x = some (.pointer (some ⟨slBase g.s, o, none⟩))) (hp : Pick (CD g c) L M) (hc : (bools c.sig)[o]? = some u) : ReadV P (.load t x) ty (Eng.look l base) L u :=
  ReadV.unfold cd_open hp fun _ _ => rv_load_sl (e := 4) (sz := 1) (n := g.w * g.h) (cells := bools c.sig) hA hx (.there (.there (.there .here))) hc
theorem ef_cds {b : Bool} (hz : ∀ w, (sizeOf t).run P w = .ok 1 w) (hx : evO l x = some (.pointer (some ⟨slBase g.s, ((j : Nat) : Int).toNat * 1, none⟩))) (hy : evO l y = some (.bool b)) (hp : Pick (CD g c) L M) (hf : Fit g c k) (hj : j < g.w * g.h)
    (hk : K undef (CD g (putS c (c.sig.set j b)) :: M)) : EffT P (.store t x y) ty (Eng.look l base) L K := by
  refine EffT.fold (EffT.unfold (K := fun v L' => v = undef ∧ ∀ F w, Holds L' F w → Holds (CD g (putS c (c.sig.set j b)) :: M) F w) cd_open hp fun _ _ => ?_) (fun v L' h => ⟨_, by rw [h.1]; exact hk, h.2⟩)
  dsimp only [cdP, List.cons_append, List.nil_append]
  refine ef_store_sl (e := 4) (sz := 1) (n := g.w * g.h) (cells := bools c.sig) hz hx hy rfl (.there (.there (.there .here))) (by unfold bools; rw [List.length_map, hf.ok.sig, hf.w, hf.h]; omega) bools_put ⟨rfl, fun F w hw => cd_fold F w M ?_⟩
  exact hw.perm (Picks.perm (As := cdP g (putS c (c.sig.set j b))) (by dsimp only [cdP, putS, List.cons_append, List.nil_append]; exact (by repeat (first | with_reducible exact .nil | with_reducible exact .here | apply Picks.cons | apply Pick.there))))
theorem rv_cde (hA : ∀ w, (isAgg t).run P w = .ok false w) (hx : evO l x = some (.pointer (some ⟨slBase g.e, o, none⟩))) (hp : Pick (CD g c) L M) (hc : (bools c.seen)[o]? = some u) : ReadV P (.load t x) ty (Eng.look l base) L u :=
  ReadV.unfold cd_open hp fun _ _ => rv_load_sl (e := 4) (sz := 1) (n := g.w * g.h) (cells := bools c.seen) hA hx (.there (.there (.there (.there .here)))) hc
theorem ef_cde {b : Bool} (hz : ∀ w, (sizeOf t).run P w = .ok 1 w) (hx : evO l x = some (.pointer (some ⟨slBase g.e, ((j : Nat) : Int).toNat * 1, none⟩))) (hy : evO l y = some (.bool b)) (hp : Pick (CD g c) L M) (hf : Fit g c k) (hj : j < g.w * g.h)
    (hk : K undef (CD g (putE c (c.seen.set j b)) :: M)) : EffT P (.store t x y) ty (Eng.look l base) L K := by
  refine EffT.fold (EffT.unfold (K := fun v L' => v = undef ∧ ∀ F w, Holds L' F w → Holds (CD g (putE c (c.seen.set j b)) :: M) F w) cd_open hp fun _ _ => ?_) (fun v L' h => ⟨_, by rw [h.1]; exact hk, h.2⟩)
  dsimp only [cdP, List.cons_append, List.nil_append]
  refine ef_store_sl (e := 4) (sz := 1) (n := g.w * g.h) (cells := bools c.seen) hz hx hy rfl (.there (.there (.there (.there .here)))) (by unfold bools; rw [List.length_map, hf.ok.seen, hf.w, hf.h]; omega) bools_put ⟨rfl, fun F w hw => cd_fold F w M ?_⟩
  exact hw.perm (Picks.perm (As := cdP g (putE c (c.seen.set j b))) (by dsimp only [cdP, putE, List.cons_append, List.nil_append]; exact (by repeat (first | with_reducible exact .nil | with_reducible exact .here | apply Picks.cons | apply Pick.there))))
theorem rv_cda (hA : ∀ w, (isAgg t).run P w = .ok false w) (hx : evO l x = some (.pointer (some ⟨slBase g.a, o, none⟩))) (hp : Pick (CD g c) L M) (hc : (bools c.again)[o]? = some u) : ReadV P (.load t x) ty (Eng.look l base) L u :=
  ReadV.unfold cd_open hp fun _ _ => rv_load_sl (e := 4) (sz := 1) (n := g.w * g.h) (cells := bools c.again) hA hx (.there (.there (.there (.there (.there .here))))) hc
theorem ef_cda {b : Bool} (hz : ∀ w, (sizeOf t).run P w = .ok 1 w) (hx : evO l x = some (.pointer (some ⟨slBase g.a, ((j : Nat) : Int).toNat * 1, none⟩))) (hy : evO l y = some (.bool b)) (hp : Pick (CD g c) L M) (hf : Fit g c k) (hj : j < g.w * g.h)
    (hk : K undef (CD g (putA c (c.again.set j b)) :: M)) : EffT P (.store t x y) ty (Eng.look l base) L K := by
  refine EffT.fold (EffT.unfold (K := fun v L' => v = undef ∧ ∀ F w, Holds L' F w → Holds (CD g (putA c (c.again.set j b)) :: M) F w) cd_open hp fun _ _ => ?_) (fun v L' h => ⟨_, by rw [h.1]; exact hk, h.2⟩)
  dsimp only [cdP, List.cons_append, List.nil_append]
  refine ef_store_sl (e := 4) (sz := 1) (n := g.w * g.h) (cells := bools c.again) hz hx hy rfl (.there (.there (.there (.there (.there .here))))) (by unfold bools; rw [List.length_map, hf.ok.again, hf.w, hf.h]; omega) bools_put ⟨rfl, fun F w hw => cd_fold F w M ?_⟩
  exact hw.perm (Picks.perm (As := cdP g (putA c (c.again.set j b))) (by dsimp only [cdP, putA, List.cons_append, List.nil_append]; exact (by repeat (first | with_reducible exact .nil | with_reducible exact .here | apply Picks.cons | apply Pick.there))))
end
theorem cd_encode {g : Cg} {c : Cd} {k n : Nat} {bit : Int} (hf : Fit g c n) (hk : k < 19) :
    Spec Tryz.prog 136 [.pointer (some ⟨g.rE, 0, none⟩), .pointer (some ⟨g.r, 9, none⟩), .int .i64 (k : Nat), .int .i64 bit] [CD g c] (fun _ : Unit => ⟨.tuple #[], True, [CD g { c with e := (encQ c.e c.cx k bit).1, cx := (encQ c.e c.cx k bit).2 }]⟩) := by
  refine Spec.mono (Spec.pre (Spec.frame (q_encode (r := g.rE) (rc := g.r) (oc := 9) (TC := 133) (PP := cdH g) (QQ := cdT g) rfl hf.ok.e hf.ok.cx hk (by have := hf.le; omega)) [Sl 3 1 (g.w * g.h) g.m (i64s g.mag), Sl 3 1 (g.w * g.h) g.n (i64s c.neg), Sl 4 1 (g.w * g.h) g.s (bools c.sig), Sl 4 1 (g.w * g.h) g.e (bools c.seen), Sl 4 1 (g.w * g.h) g.a (bools c.again), RW5 g.rW c.rw]) (fun F w hw => ?_)) (fun x _ => ⟨(), rfl, trivial, fun F w hw => ?_⟩)
  · exact ((Holds.stars.1 hw).perm (Picks.perm (by unfold cdP; dsimp only [List.cons_append, List.nil_append]; unfold cdC; exact (by with_reducible repeat constructor))))
  · exact cd_fold F w [] (hw.perm (Picks.perm (by unfold cdP; dsimp only [List.cons_append, List.nil_append]; unfold cdC; exact (by with_reducible repeat constructor))))
theorem cd_rawbit {g : Cg} {c : Cd} {n : Nat} {bit : Int} (hf : Fit g c n) :
    Spec Tryz.prog 135 [.pointer (some ⟨g.rW, 0, none⟩), .int .i64 bit] [CD g c] (fun _ : Unit => ⟨.tuple #[], True, [CD g { c with rw := rawBit c.rw bit }]⟩) := by
  refine Spec.mono (Spec.pre (Spec.frame (w_bit (r := g.rW) (w := c.rw) (bit := bit) (by have := hf.lr; omega)) [pt g.r 133 (cdC g c.cx), Sl 3 1 (g.w * g.h) g.m (i64s g.mag), Sl 3 1 (g.w * g.h) g.n (i64s c.neg), Sl 4 1 (g.w * g.h) g.s (bools c.sig), Sl 4 1 (g.w * g.h) g.e (bools c.seen), Sl 4 1 (g.w * g.h) g.a (bools c.again), ME g.rE c.e]) (fun F w hw => ?_)) (fun x _ => ⟨(), rfl, trivial, fun F w hw => ?_⟩)
  · exact ((Holds.stars.1 hw).perm (Picks.perm (by unfold cdP; dsimp only [List.cons_append, List.nil_append]; exact (by with_reducible repeat constructor))))
  · exact cd_fold F w [] (hw.perm (Picks.perm (by unfold cdP; dsimp only [List.cons_append, List.nil_append]; exact (by with_reducible repeat constructor))))
theorem k_one {b : Bool} : Spec Tryz.prog 54 [.bool b] [] (fun _ : Unit => ⟨.int .i64 (oneB b), True, []⟩) := by
 refine spec_of_tr func54 rfl ntmps54 (by kernel_rfl) ?_
 refine tr_seq (tr_region (tas rfl (trl_nil (tr_seq (tr_seq (tr_region (tmv rfl (trl_nil (tr_ifb rfl (fun h0 => ?_) (fun h0 => ?_))))))))))
 ·refine tr_seq (tr_region (tas rfl (trl_nil (tr_ret func54 rfl .nil (by kernel_rfl) (.tmp rfl .nil) () (by rw [show oneB b = 1 from if_pos h0]; rfl) trivial (holds_of_picks (by with_reducible repeat constructor))))))
 ·refine tr_skip (tr_seq (tr_region (tas rfl (trl_nil (tr_ret func54 rfl .nil (by kernel_rfl) (.tmp rfl .nil) () (by rw [show oneB b = 0 from if_neg (by simp [h0])]; rfl) trivial (holds_of_picks (by with_reducible repeat constructor)))))))
theorem k_bit {g : Cg} {c : Cd} {n k : Nat} {b : Int} (hg : GOk g) (hf : Fit g c n) (hk : k < 19) : Spec Tryz.prog 127 [g.p, .int .i64 (k : Nat), .int .i64 b] [CD g c] (fun _ : Unit => ⟨.int .i64 b, True, [CD g (bitF c k b)]⟩) := by
 refine spec_of_tr func127 rfl ntmps127 (by kernel_rfl) ?_
 refine tr_seq (tr_region (tas rfl (trl_nil (tr_seq (tr_block (tr_seq (tr_region (tmv rfl (tnc rfl (trl_pv (pv_fieldAddr runUnderlying133 rfl sizeOf4 rfl rfl) (trl_val (rv_cd isAgg4 rfl (by with_reducible repeat constructor) (cd_at10 (by assumption))) ?_)))))))))))
 refine tmv rfl (trl_pvg rfl rfl (pv_move rfl) ?_)
 refine trl_pvg rfl rfl (pv_nilCheck rfl) ?_
 refine trl_pvg rfl rfl (pv_fieldAddr runUnderlying133 rfl sizeOf4 rfl rfl) ?_
 refine trl_valg rfl rfl (rv_cd isAgg4 rfl (by with_reducible repeat constructor) (cd_at11 (by assumption))) ?_
 refine trl_pv (pv_pick_t rfl rfl rfl) (tas rfl (trl_nil (tr_keep (ks := [0,1,2,16]) (.cons rfl (.cons rfl (.cons rfl (.cons rfl .nil)))) fun base => ?_)))
 refine tr_ifb rfl (fun h0 => ?_) (fun h0 => ?_)
 ·refine tr_region (tmv rfl (tnc rfl (trl_pv (pv_fieldAddr runUnderlying133 rfl sizeOf129 rfl rfl) (trl_val (rv_cd isAgg129 rfl (by with_reducible repeat constructor) (cd_at13 (by assumption))) ?_))))
  refine tmv rfl (trl_eff (ef_call rfl rfl call135 (cd_rawbit hf) (by with_reducible repeat constructor) fun x32 hx32 => ?_))
  dsimp only [List.cons_append, List.nil_append]
  refine trl_nil ?_
  rw [show ({ c with rw := rawBit c.rw b } : Cd) = bitF c k b from (if_pos (by rw [hf.raw]; exact h0)).symm]
  refine tr_keep (ks := [2]) (.cons rfl .nil) fun base => ?_
  refine tr_inBlock (tr_seq (tr_region (tmv rfl (tas rfl (trl_nil (tr_ret func127 rfl .nil (by kernel_rfl) (.tmp rfl .nil) () rfl trivial (holds_of_picks (by with_reducible repeat constructor))))))))
 ·refine tr_seq (tr_region (tmv rfl (tnc rfl (trl_pv (pv_fieldAddr runUnderlying133 rfl sizeOf4 rfl rfl) (trl_val (rv_cd isAgg4 rfl (by with_reducible repeat constructor) (cd_at10 (by assumption))) ?_)))))
  refine tas rfl (trl_nil (tr_then rfl rfl ?_))
  refine tr_draww (rem := [0,1,2,3,4,5,6,7,8,9]) (by kernel_rfl) (by kernel_rfl) rfl ?_
  refine twm 0 [1,2,3,9] rfl (by kernel_rfl) rfl rfl (twn 1 [2,3,9] rfl (by kernel_rfl) rfl rfl (trw_pure 2 [3,9] rfl (by kernel_rfl) rfl (pv_fieldAddr runUnderlying133 rfl sizeOf128 rfl rfl) (twm 4 [5,6,9] rfl (by kernel_rfl) rfl rfl (twn 5 [6,9] rfl (by kernel_rfl) rfl rfl (trw_pure 6 [9] rfl (by kernel_rfl) rfl (pv_fieldAddr runUnderlying133 rfl sizeOf127 rfl rfl) (twm 7 [9] rfl (by kernel_rfl) rfl rfl (twm 8 [9] rfl (by kernel_rfl) rfl rfl (trw_read 3 [9] rfl (by kernel_rfl) rfl (rv_cd isAgg128 rfl (by with_reducible repeat constructor) (cd_at12 (by assumption))) ?_))))))))
  refine trw_one 9 (by kernel_rfl) ?_
  refine trwat_eff rfl rfl rfl (ef_call rfl rfl call136 (cd_encode hf hk) (by with_reducible repeat constructor) fun x47 hx47 => ?_)
  dsimp only [List.cons_append, List.nil_append]
  refine ⟨?_, trivial⟩
  refine trw_nil ?_
  rw [show ({ c with e := (encQ c.e c.cx k b).1, cx := (encQ c.e c.cx k b).2 } : Cd) = bitF c k b from (if_neg (by rw [hf.raw, h0]; decide)).symm]
  refine tr_keep (ks := [2]) (.cons rfl .nil) fun base => ?_
  refine tr_inBlock (tr_seq (tr_region (tmv rfl (tas rfl (trl_nil (tr_ret func127 rfl .nil (by kernel_rfl) (.tmp rfl .nil) () rfl trivial (holds_of_picks (by with_reducible repeat constructor))))))))
end Go.Proofs
