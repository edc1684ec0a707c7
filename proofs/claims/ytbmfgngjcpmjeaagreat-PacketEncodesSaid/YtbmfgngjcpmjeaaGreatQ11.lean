/- Contracts of functions that the law reaches, in every memory (part Q11). -/
import Derived.Test.YtbmfgngjcpmjeaaGreatQ10
import Derived.Test.YtbmfgngjcpmjeaaGreatLay
set_option linter.unusedVariables false
set_option linter.unusedSimpArgs false
set_option maxRecDepth 10000
namespace Go.Proofs
open Go.Eng Tryz
theorem cd_outlen {g : Cg} {c : Cd} {n : Nat} (hf : Fit g c n) : Spec Tryz.prog 60 [.pointer (some ⟨g.rE, 0, none⟩)] [CD g c] (fun _ : Unit => ⟨.int .i64 ((c.e.b.length : Int) - 1), True, [CD g c]⟩) := by
  refine Spec.mono (Spec.pre (Spec.frame (q_outlen (r := g.rE) (e := c.e) (by have := hf.le; omega)) [pt g.r 133 (cdC g c.cx), Sl 3 1 (g.w * g.h) g.m (i64s g.mag), Sl 3 1 (g.w * g.h) g.n (i64s c.neg), Sl 4 1 (g.w * g.h) g.s (bools c.sig), Sl 4 1 (g.w * g.h) g.e (bools c.seen), Sl 4 1 (g.w * g.h) g.a (bools c.again), RW5 g.rW c.rw]) (fun F w hw => ?_)) (fun x _ => ⟨(), rfl, trivial, fun F w hw => ?_⟩)
  · exact ((Holds.stars.1 hw).perm (Picks.perm (by unfold cdP; dsimp only [List.cons_append, List.nil_append]; exact (by with_reducible repeat constructor))))
  · exact cd_fold F w [] (hw.perm (Picks.perm (by unfold cdP; dsimp only [List.cons_append, List.nil_append]; exact (by with_reducible repeat constructor))))
theorem cd_rawout {g : Cg} {c : Cd} {n : Nat} (hf : Fit g c n) : Spec Tryz.prog 61 [.pointer (some ⟨g.rW, 0, none⟩)] [CD g c] (fun _ : Unit => ⟨.int .i64 (rawOut c.rw), True, [CD g c]⟩) := by
  refine Spec.mono (Spec.pre (Spec.frame (w_out (r := g.rW) (w := c.rw) (by have := hf.lr; omega)) [pt g.r 133 (cdC g c.cx), Sl 3 1 (g.w * g.h) g.m (i64s g.mag), Sl 3 1 (g.w * g.h) g.n (i64s c.neg), Sl 4 1 (g.w * g.h) g.s (bools c.sig), Sl 4 1 (g.w * g.h) g.e (bools c.seen), Sl 4 1 (g.w * g.h) g.a (bools c.again), ME g.rE c.e]) (fun F w hw => ?_)) (fun x _ => ⟨(), rfl, trivial, fun F w hw => ?_⟩)
  · exact ((Holds.stars.1 hw).perm (Picks.perm (by unfold cdP; dsimp only [List.cons_append, List.nil_append]; exact (by with_reducible repeat constructor))))
  · exact cd_fold F w [] (hw.perm (Picks.perm (by unfold cdP; dsimp only [List.cons_append, List.nil_append]; exact (by with_reducible repeat constructor))))
theorem cd_flush {g : Cg} {c : Cd} {n : Nat} (hf : Fit g c n) : Spec Tryz.prog 63 [.pointer (some ⟨g.rE, 0, none⟩)] [CD g c] (fun v : Value => ⟨v, one? v = true, [CB g c (cdT g), Sl 5 1 (flushB c.e).length v (u8s (flushB c.e)), RW5 g.rW c.rw]⟩) := by
  refine Spec.mono (Spec.pre (Spec.frame (q_flush (r := g.rE) (e := c.e) hf.ok.e.2.2 (by have := hf.le; omega)) [pt g.r 133 (cdC g c.cx), Sl 3 1 (g.w * g.h) g.m (i64s g.mag), Sl 3 1 (g.w * g.h) g.n (i64s c.neg), Sl 4 1 (g.w * g.h) g.s (bools c.sig), Sl 4 1 (g.w * g.h) g.e (bools c.seen), Sl 4 1 (g.w * g.h) g.a (bools c.again), RW5 g.rW c.rw]) (fun F w hw => ?_)) (fun x hx => ⟨x, rfl, hx, fun F w hw => ?_⟩)
  · exact ((Holds.stars.1 hw).perm (Picks.perm (by unfold cdP; dsimp only [List.cons_append, List.nil_append]; exact (by with_reducible repeat constructor))))
  · refine cb_fold F w _ (hw.perm (Picks.perm (by unfold cbP; dsimp only [List.cons_append, List.nil_append]; rw [show cdH g ++ cxC c.cx ++ cdT g = cdC g c.cx from rfl]; exact (by repeat (first | with_reducible exact .here | apply Pick.there | exact .nil | apply Picks.cons)))))
section
variable {P : Program} {ty t : TypeId} {l : List (Nat × Value)} {base : Env} {L M : List SL} {x y : Operand} {K : Value → List SL → Prop} {g : Cg} {c : Cd} {k o j : Nat} {u : Value} {tl : List Value}
theorem rv_cb (hA : ∀ w, (isAgg t).run P w = .ok false w) (hx : evO l x = some (.pointer (some ⟨g.r, o, none⟩))) (hp : Pick (CB g c tl) L M) (hc : (cdH g ++ cxC c.cx ++ tl)[o]? = some u) : ReadV P (.load t x) ty (Eng.look l base) L u :=
  ReadV.unfold cb_open hp fun _ _ => rv_load hA hx .here hc
end
theorem cell_tail {g : Cg} {cx : Cxs} {tl : List Value} (h : cx.length = 19) (j : Nat) : (cdH g ++ cxC cx ++ tl)[47 + j]? = tl[j]? := by
  have h1 : (cdH g ++ cxC cx).length = 47 := by rw [List.length_append, cxC_length, h]; rfl
  rw [List.getElem?_append_right (by omega), h1, Nat.add_sub_cancel_left]
theorem cell_set {g : Cg} {cx : Cxs} {tl : List Value} (h : cx.length = 19) (j : Nat) (u : Value) : (cdH g ++ cxC cx ++ tl).set (47 + j) u = cdH g ++ cxC cx ++ tl.set j u := by
  have h1 : (cdH g ++ cxC cx).length = 47 := by rw [List.length_append, cxC_length, h]; rfl
  rw [List.set_append_right _ _ (by omega), h1, Nat.add_sub_cancel_left]
theorem cell_len {g : Cg} {cx : Cxs} {tl : List Value} (h : cx.length = 19) (ht : tl.length = 6) : (cdH g ++ cxC cx ++ tl).length = 53 := by
  rw [List.length_append, List.length_append, cxC_length, h, ht]; rfl
def CX (g : Cg) (c : Cd) : SL := exs (fun _ : Value × Value × Value => True) (fun y => [CB g c [.bool true, y.1, y.2.1, y.2.2, .pointer none, .pointer none]])
theorem cx_open {g : Cg} {c : Cd} : Unfold (CX g c) (fun _ : Value × Value × Value => True) (fun y => [CB g c [.bool true, y.1, y.2.1, y.2.2, .pointer none, .pointer none]]) := exs_open
theorem cx_fold {g : Cg} {c : Cd} (a b d : Value) : Fold [CB g c [.bool true, a, b, d, .pointer none, .pointer none]] (CX g c) := exs_fold (p := fun _ : Value × Value × Value => True) (A := fun y => [CB g c [.bool true, y.1, y.2.1, y.2.2, .pointer none, .pointer none]]) (a, b, d) trivial
theorem cntN_spec {p : Nat} (hp : p < 300) : Spec Tryz.prog 55 [.int .i64 (p : Nat)] [] (fun _ : Unit => ⟨.int .i64 (cntN p : Nat), True, []⟩) :=
  Spec.mono (r_cnt (n := (p : Int)) (by omega)) fun u h => ⟨(), by show Value.int .i64 _ = Value.int .i64 _; congr 1; unfold cntN; split <;> omega, h, fun _ _ h => h⟩
def magsAt (v : List Int) (i : Nat) : List Int := magsF (v.take i) ++ List.replicate (v.length - i) 0
def negsAt (v : List Int) (i : Nat) : List Int := negsF (v.take i) ++ List.replicate (v.length - i) 0
theorem at_put {f : Int → Int} {v : List Int} {i : Nat} {x : Int} (h : v[i]? = some x) : ((v.take i).map f ++ List.replicate (v.length - i) 0).set i (f x) = (v.take (i + 1)).map f ++ List.replicate (v.length - (i + 1)) 0 := by
  have hi := (List.getElem?_eq_some_iff.1 h).1
  have hl : ((v.take i).map f).length = i := by rw [List.length_map, List.length_take]; omega
  rw [List.set_append_right _ _ (by omega), hl, Nat.sub_self, show v.length - i = (v.length - (i + 1)) + 1 by omega, List.replicate_succ, List.set_cons_zero, List.take_add_one, h]
  simp
theorem mags_put {v : List Int} {i : Nat} {x : Int} (h : v[i]? = some x) : (i64s (magsAt v i)).set (((i : Nat) : Int).toNat * 1) (.int .i64 (max x (0 - x))) = i64s (magsAt v (i + 1)) := by
  rw [i64s_put]; congr 1; exact at_put (f := fun x => max x (0 - x)) h
theorem negs_put {v : List Int} {i : Nat} {x : Int} (h : v[i]? = some x) : (i64s (negsAt v i)).set (((i : Nat) : Int).toNat * 1) (.int .i64 (oneB (decide (x < 0)))) = i64s (negsAt v (i + 1)) := by
  rw [i64s_put]; congr 1; exact at_put (f := fun x => oneB (decide (x < 0))) h
theorem magsAt_len {v : List Int} {i : Nat} (hi : i ≤ v.length) : (magsAt v i).length = v.length := by simp [magsAt, magsF]; omega
theorem negsAt_len {v : List Int} {i : Nat} (hi : i ≤ v.length) : (negsAt v i).length = v.length := by simp [negsAt, negsF]; omega
theorem mags_get {v : List Int} {i : Nat} {x : Int} (h : v[i]? = some x) : (i64s (magsAt v (i + 1)))[((i : Nat) : Int).toNat * 1]? = some (.int .i64 (max x (0 - x))) := by
  have hi := (List.getElem?_eq_some_iff.1 h).1
  rw [i64s_at (by rw [magsAt_len (by omega)]; exact hi)]
  congr 2
  unfold magsAt magsF
  rw [List.getD_eq_getElem?_getD, List.getElem?_append_left (by simp; omega), List.getElem?_map, List.getElem?_take, if_pos (by omega), h]; rfl
theorem mags_zero (v : List Int) : magsAt v 0 = List.replicate v.length 0 := by simp [magsAt, magsF]
theorem negs_zero (v : List Int) : negsAt v 0 = List.replicate v.length 0 := by simp [negsAt, negsF]
theorem mags_end (v : List Int) : magsAt v v.length = magsF v := by simp [magsAt]
theorem negs_end (v : List Int) : negsAt v v.length = negsF v := by simp [negsAt]
def planesAt (v : List Int) (i : Nat) : Nat := (magsF (v.take i)).foldl (fun p x => bumpF (31 - p) x p) 0
theorem planesAt_succ {v : List Int} {i : Nat} {x : Int} (h : v[i]? = some x) : planesAt v (i + 1) = bumpF (31 - planesAt v i) (max x (0 - x)) (planesAt v i) := by
  unfold planesAt
  rw [List.take_add_one, h]
  simp [magsF]
theorem planesAt_end (v : List Int) : planesAt v v.length = planesF v := by simp [planesAt, planesF]
theorem passC_snoc (l : List (Int × Bool)) (a : Int) (b : Bool) : passC l ++ [.int .i64 a, .bool b] = passC (l ++ [(a, b)]) := by simp [passC, encP]
structure GS (g : Cg) (w h : Nat) (band style : Int) (mag : List Int) : Prop where
  ok : GOk g
  w : g.w = w
  h : g.h = h
  band : g.band = band
  style : g.style = style
  mag : g.mag = mag
theorem gs_fit {g : Cg} {w h : Nat} {band style : Int} {v : List Int} {planes n k : Nat} {s : Es8} (hg : GS g w h band style (magsF v)) (H : EInv style planes n w h (cd0 w h band style v) k s) (hr : g.raw = (begK style k s).raw) (hk : k ≤ 100) : Fit g (begK style k s) 400000 := by
  obtain ⟨b1, b2, b3, b4, b5, b6⟩ := begK_ok H
  obtain ⟨s1, s2, s3, s4, s5⟩ := begK_same (style := style) (k := k) (s := s)
  refine ⟨b1, by rw [s1, H.cw, hg.w], by rw [s2, H.ch, hg.h], by rw [s3, H.cb, hg.band]; rfl, by rw [s4, H.cs, hg.style]; rfl, hr.symm, by rw [s5, H.cm, hg.mag]; rfl, by omega, by omega⟩
end Go.Proofs
