/- The engine: tree nodes, lists behind exists. -/
import Derived.Test.YtbmfgngjcpmjeaaGreatPlainA
/- The engine, part 11: the nodes of a tag tree, level by level. -/
set_option linter.unusedVariables false
set_option linter.unusedSimpArgs false
namespace Go.Eng
open Go
def NS (t : TypeId) : List (Nat × Nat) → List Nat → List Nd → SL
  | s :: sh, p :: ps, T => star (pt p t ((T.take (s.1 * s.2)).flatMap encN)) (NS t sh ps (T.drop (s.1 * s.2)))
  | _, _, _ => emp
def NSx (t : TypeId) : List (Nat × Nat) → List Nat → List Nd → Nat → SL
  | s :: sh, p :: ps, T, 0 => NS t sh ps (T.drop (s.1 * s.2))
  | s :: sh, p :: ps, T, i + 1 => star (pt p t ((T.take (s.1 * s.2)).flatMap encN)) (NSx t sh ps (T.drop (s.1 * s.2)) i)
  | _, _, _, _ => emp
def levelOf (sh : List (Nat × Nat)) (i : Nat) (s : Nat × Nat) (T : List Nd) : List Nd := (T.drop (offs sh i)).take (s.1 * s.2)
theorem ns_eq {t : TypeId} : ∀ {sh : List (Nat × Nat)} {ps : List Nat} {T : List Nd} {i p : Nat} {s : Nat × Nat}, sh[i]? = some s → ps[i]? = some p →
    NS t sh ps T = star (pt p t ((levelOf sh i s T).flatMap encN)) (NSx t sh ps T i) := by
  intro sh
  induction sh with
  | nil => intro ps T i p s h; simp at h
  | cons s0 sh ih =>
    intro ps T i p s hs hp
    cases ps with
    | nil => simp at hp
    | cons p0 ps =>
      cases i with
      | zero =>
        simp at hs hp
        subst hs; subst hp
        simp [NS, NSx, levelOf, offs]
      | succ i =>
        simp at hs hp
        simp only [NS, NSx]
        rw [ih hs hp, star_left_comm]
        congr 3
        unfold levelOf
        rw [List.drop_drop, offs]
theorem nsx_set {t : TypeId} : ∀ {sh : List (Nat × Nat)} {ps : List Nat} {T : List Nd} {i j : Nat} {s : Nat × Nat} {nd : Nd}, sh[i]? = some s → j < s.1 * s.2 →
    NSx t sh ps (T.set (offs sh i + j) nd) i = NSx t sh ps T i := by
  intro sh
  induction sh with
  | nil => intro ps T i j s nd h; simp at h
  | cons s0 sh ih =>
    intro ps T i j s nd hs hj
    cases ps with
    | nil => cases i <;> simp [NSx]
    | cons p0 ps =>
      cases i with
      | zero =>
        simp at hs; subst hs
        simp only [NSx, offs, Nat.zero_add]
        rw [List.drop_set_of_lt hj]
      | succ i =>
        simp at hs
        simp only [NSx, offs]
        have e1 : (T.set (s0.1 * s0.2 + offs sh i + j) nd).take (s0.1 * s0.2) = T.take (s0.1 * s0.2) := by
          rw [List.take_set_of_le (by omega)]
        have e2 : (T.set (s0.1 * s0.2 + offs sh i + j) nd).drop (s0.1 * s0.2) = (T.drop (s0.1 * s0.2)).set (offs sh i + j) nd := by
          rw [List.drop_set, if_neg (by omega)]; congr 1; omega
        rw [e1, e2, ih hs hj]
theorem level_get {sh : List (Nat × Nat)} {i j : Nat} {s : Nat × Nat} {T : List Nd} {nd : Nd} (hj : j < s.1 * s.2) (h : T[offs sh i + j]? = some nd) : (levelOf sh i s T)[j]? = some nd := by
  unfold levelOf
  rw [List.getElem?_take, if_pos hj, List.getElem?_drop]; exact h
theorem level_set {sh : List (Nat × Nat)} {i j : Nat} {s : Nat × Nat} {T : List Nd} {nd : Nd} (hj : j < s.1 * s.2) : levelOf sh i s (T.set (offs sh i + j) nd) = (levelOf sh i s T).set j nd := by
  unfold levelOf
  rw [List.drop_set, if_neg (by omega), show offs sh i + j - offs sh i = j by omega, List.take_set]
section
variable {P : Program} {ty t tn : TypeId} {l : List (Nat × Value)} {base : Env} {L M : List SL} {x y : Operand} {K : Value → List SL → Prop}
theorem ns_open {sh : List (Nat × Nat)} {ps : List Nat} {T : List Nd} {i p : Nat} {s : Nat × Nat} {N : List SL} {F : Fm} {w : World} (hs : sh[i]? = some s) (hp : ps[i]? = some p) :
    Holds (NS tn sh ps T :: N) F w ↔ Holds (pt p tn ((levelOf sh i s T).flatMap encN) :: NSx tn sh ps T i :: N) F w := by
  rw [ns_eq hs hp]; exact Holds.star
theorem rv_load_ns {sh : List (Nat × Nat)} {ps : List Nat} {T : List Nd} {i p j o : Nat} {s : Nat × Nat} {nd : Nd} {v : Value} (hA : ∀ w, (isAgg t).run P w = .ok false w) (hx : evO l x = some (.pointer (some ⟨p, j * 3 + o, none⟩)))
    (hN : Pick (NS tn sh ps T) L M) (hs : sh[i]? = some s) (hp : ps[i]? = some p) (hj : j < s.1 * s.2) (hT : T[offs sh i + j]? = some nd) (hv : (encN nd)[o]? = some v) :
    ReadV P (.load t x) ty (look l base) L v := fun F w hw =>
  rv_load (L := pt p tn ((levelOf sh i s T).flatMap encN) :: NSx tn sh ps T i :: M) hA hx .here (flat_get encN_len (level_get hj hT) hv) F w ((ns_open hs hp).1 (hw.perm hN.perm))
theorem ef_store_ns {sh : List (Nat × Nat)} {ps : List Nat} {T : List Nd} {i p j o : Nat} {s : Nat × Nat} {nd : Nd} {u : Value} (hz : ∀ w, (sizeOf t).run P w = .ok 1 w) (hx : evO l x = some (.pointer (some ⟨p, j * 3 + o, none⟩))) (hy : evO l y = some u) (h1 : one? u = true)
    (hN : Pick (NS tn sh ps T) L M) (nd' : Nd) (hs : sh[i]? = some s) (hp : ps[i]? = some p) (hj : j < s.1 * s.2) (hT : T[offs sh i + j]? = some nd) (ho : o < 3) (he : (encN nd).set o u = encN nd')
    (hk : K undef (NS tn sh ps (T.set (offs sh i + j) nd') :: M)) : EffT P (.store t x y) ty (look l base) L K := by
  intro F w hw
  have hw2 := (ns_open hs hp).1 (hw.perm hN.perm)
  have hlt : j < (levelOf sh i s T).length := (List.getElem?_eq_some_iff.1 (level_get hj hT)).1
  refine NextWp.mono ?_ (ef_store_s (L := pt p tn ((levelOf sh i s T).flatMap encN) :: NSx tn sh ps T i :: M) (M := NSx tn sh ps T i :: M)
    (K := fun v' L' => v' = undef ∧ L' = pt p tn (((levelOf sh i s T).flatMap encN).set (j * 3 + o) u) :: NSx tn sh ps T i :: M) hz hx hy h1 .here (by rw [flat_length encN_len]; omega) ⟨rfl, rfl⟩ F w hw2)
  rintro v' w' ⟨hg, L', ⟨rfl, rfl⟩, hL⟩
  refine ⟨hg, _, hk, ?_⟩
  rw [flat_set encN_len (level_get hj hT) ho he, ← level_set hj] at hL
  exact (ns_open hs hp).2 (by rw [nsx_set hs hj]; exact hL)
end
theorem ns_snoc {t : TypeId} {s : Nat × Nat} {p : Nat} {T : List Nd} : ∀ {sh : List (Nat × Nat)} {ps : List Nat} {T0 : List Nd}, sh.length = ps.length → T0.length = total sh → T.length = s.1 * s.2 →
    NS t (sh ++ [s]) (ps ++ [p]) (T0 ++ T) = star (pt p t (T.flatMap encN)) (NS t sh ps T0) := by
  intro sh
  induction sh with
  | nil =>
    intro ps T0 hl hT0 hT
    have : ps = [] := List.eq_nil_of_length_eq_zero (by simpa using hl.symm)
    subst this
    have : T0 = [] := List.eq_nil_of_length_eq_zero (by simpa [total] using hT0)
    subst this
    simp only [List.nil_append, NS]
    rw [List.take_of_length_le (by omega)]
  | cons s0 sh ih =>
    intro ps T0 hl hT0 hT
    cases ps with
    | nil => simp at hl
    | cons p0 ps =>
      simp only [total] at hT0
      simp only [List.cons_append, NS]
      rw [List.take_append_of_le_length (by omega), List.drop_append_of_le_length (by omega), ih (by simpa using hl) (by simp; omega) hT, star_left_comm]
theorem ns_nil {t : TypeId} : Fold [] (NS t [] [] []) := by
  intro F w N h
  have : Holds (stars [] :: N) F w := Holds.stars.2 h
  exact this
theorem ns_add {t : TypeId} {s : Nat × Nat} {p : Nat} {T T0 : List Nd} {sh : List (Nat × Nat)} {ps : List Nat} (h1 : sh.length = ps.length) (h2 : T0.length = total sh) (h3 : T.length = s.1 * s.2) :
    Fold [NS t sh ps T0, pt p t (T.flatMap encN)] (NS t (sh ++ [s]) (ps ++ [p]) (T0 ++ T)) := by
  intro F w N h
  rw [ns_snoc h1 h2 h3]
  exact Holds.star.2 (h.perm (List.Perm.swap _ _ _))
theorem ptr_eq {p a b : Nat} (h : a = b) : Value.pointer (some ⟨p, a, none⟩) = .pointer (some ⟨p, b, none⟩) := by rw [h]
theorem zeros_nd (n : Nat) : zerosL [.int .i64 0, .int .i64 0, .bool false] n = (List.replicate n (⟨0, 0, false⟩ : Nd)).flatMap encN := by
  induction n with
  | zero => rfl
  | succ n ih => simp only [zerosL, List.replicate_succ, List.flatMap_cons, ih]; rfl
theorem total_append (a b : List (Nat × Nat)) : total (a ++ b) = total a + total b := by
  induction a with
  | nil => simp [total]
  | cons s a ih => simp only [List.cons_append, total, ih]; omega
theorem total_snoc (a : List (Nat × Nat)) (w h : Nat) : total (a ++ [(w, h)]) = total a + w * h := by rw [total_append]; simp [total]
def lvEnc (x : (Nat × Nat) × Nat) : List Value := [.int .i64 (x.1.1 : Nat), .int .i64 (x.1.2 : Nat), .slice (some ⟨x.2, 0, none⟩) (x.1.1 * x.1.2) (x.1.1 * x.1.2)]
theorem lvEnc_len (x : (Nat × Nat) × Nat) : (lvEnc x).length = 3 := rfl
def lvCells (sh : List (Nat × Nat)) (ps : List Nat) : List Value := (sh.zip ps).flatMap lvEnc
theorem lv_get {sh : List (Nat × Nat)} {ps : List Nat} {i p : Nat} {s : Nat × Nat} (hs : sh[i]? = some s) (hp : ps[i]? = some p) : (sh.zip ps)[i]? = some (s, p) := by
  rw [List.getElem?_zip_eq_some]; exact ⟨hs, hp⟩
theorem lv_cell {sh : List (Nat × Nat)} {ps : List Nat} {i p o : Nat} {s : Nat × Nat} {v : Value} (hs : sh[i]? = some s) (hp : ps[i]? = some p) (hv : (lvEnc (s, p))[o]? = some v) : (lvCells sh ps)[i * 3 + o]? = some v :=
  flat_get lvEnc_len (lv_get hs hp) hv
theorem lv_w {sh : List (Nat × Nat)} {ps : List Nat} {i p : Nat} {s : Nat × Nat} (hs : sh[i]? = some s) (hp : ps[i]? = some p) : (lvCells sh ps)[i * 3 + 0]? = some (.int .i64 (s.1 : Nat)) := lv_cell hs hp rfl
theorem lv_s {sh : List (Nat × Nat)} {ps : List Nat} {i p : Nat} {s : Nat × Nat} (hs : sh[i]? = some s) (hp : ps[i]? = some p) : (lvCells sh ps)[i * 3 + 2]? = some (.slice (some ⟨p, 0, none⟩) (s.1 * s.2) (s.1 * s.2)) := lv_cell hs hp rfl
theorem idx1 {l : List Value} {j : Nat} {u : Value} (h : l[j]? = some u) : l[((j : Nat) : Int).toNat * 1]? = some u := by simpa using h
theorem get_some {α : Type} {l : List α} {i : Nat} (h : i < l.length) : ∃ x, l[i]? = some x := ⟨_, List.getElem?_eq_getElem h⟩
theorem lv_part {sh : List (Nat × Nat)} {ps : List Nat} {i p : Nat} {s : Nat × Nat} (hs : sh[i]? = some s) (hp : ps[i]? = some p) : ∀ o, o < 3 → (lvCells sh ps)[i * 3 + o]? = (lvEnc (s, p))[o]? :=
  flat_part lvEnc_len (lv_get hs hp)
theorem lv_snoc {sh : List (Nat × Nat)} {ps : List Nat} {s : Nat × Nat} {p : Nat} (h : sh.length = ps.length) : lvCells (sh ++ [s]) (ps ++ [p]) = lvCells sh ps ++ lvEnc (s, p) := by
  unfold lvCells
  rw [List.zip_append h]; simp
end Go.Eng
/- The engine, part 12: lists of assertions behind exists. -/
set_option linter.unusedVariables false
set_option linter.unusedSimpArgs false
namespace Go.Eng
open Go
def exs {α : Type} (p : α → Prop) (A : α → List SL) : SL := ex fun x => stars (pure' (p x) :: A x)
theorem one_int (k : IntKind) (n : Int) : one? (.int k n) = true := rfl
theorem one_slice (a : Option Addr) (n c : Nat) : one? (.slice a n c) = true := rfl
theorem cellsL_one {v : Value} (h : one? v = true) : cellsL v = [v] := by cases v <;> simp [one?, cellsL] at h ⊢
section
variable {P : Program} {b : Fr} {n : Nat} {G : FGoal} {k : List Item} {env : Env} {ds : List Nat} {L M : List SL}
theorem exs_open {α : Type} {p : α → Prop} {A : α → List SL} : Unfold (exs p A) p A := by
  intro F w N h
  obtain ⟨x, h⟩ := Holds.ex.1 h
  have h := Holds.stars.1 h
  obtain ⟨hp, h⟩ := Holds.pure.1 h
  exact ⟨x, hp, h⟩
theorem exs_fold {α : Type} {p : α → Prop} {A : α → List SL} (x : α) (hp : p x) : Fold (A x) (exs p A) :=
  fun F w N hw => Holds.ex.2 ⟨x, Holds.stars.2 (Holds.pure.2 ⟨hp, hw⟩)⟩
theorem tr_exs {α : Type} {p : α → Prop} {A : α → List SL} (hp : Pick (exs p A) L M) (t : ∀ x, p x → Tr P b n G k env ds (A x ++ M)) : Tr P b n G k env ds L :=
  Tr.unfold exs_open hp t
theorem holds_exs {α : Type} {p : α → Prop} {A : α → List SL} (x : α) (hp : p x) (h : ∀ F w, Holds L F w → Holds (A x ++ M) F w) : ∀ F w, Holds L F w → Holds (exs p A :: M) F w :=
  fun F w hw => exs_fold x hp F w M (h F w hw)
theorem holds_skip {A : SL} (h : ∀ F w, Holds L F w → Holds M F w) : ∀ F w, Holds (A :: L) F w → Holds (A :: M) F w := by
  intro F w hw
  have h1 : Holds (L ++ [A]) F w := hw.perm (List.perm_append_comm (l₁ := [A]))
  have h2 := h _ w (Holds.frame.1 h1)
  exact (Holds.frame.2 h2).perm (List.perm_append_comm (l₂ := [A]))
theorem Tr.fact {p : Prop} (h : ∀ F w, Holds L F w → p) (t : p → Tr P b n G k env ds L) : Tr P b n G k env ds L := fun F w hw => t (h F w hw) F w hw
end
def SlV (v : Value) (n : Nat) : Prop := (∃ a, v = .slice a 0 0 ∧ n = 0) ∨ ∃ p cap, v = .slice (some ⟨p, 0, none⟩) n cap ∧ n ≤ cap
theorem SlV.of {e sz n : Nat} {v : Value} {cells : List Value} {L : List SL} {F : Fm} {w : World} (h : Holds (Sl e sz n v cells :: L) F w) : SlV v n := by
  rcases holds_sl.1 h with ⟨a, rfl, rfl, _⟩ | ⟨p, cap, rest, rfl, _, h2, _⟩
  · exact .inl ⟨a, rfl, rfl⟩
  · exact .inr ⟨p, cap, rfl, h2⟩
theorem SlV.one {v : Value} {n : Nat} (h : SlV v n) : one? v = true := by
  rcases h with ⟨a, rfl, _⟩ | ⟨p, cap, rfl, _⟩ <;> rfl
section
variable {P : Program} {ty t t' : TypeId} {l : List (Nat × Value)} {base : Env} {L M : List SL} {x y : Operand} {k : IntKind}
theorem pv_len_v {T e n : Nat} {v : Value} (hU : ∀ w, (underlying T).run P w = .ok (.slice e) w) (hx : evO l x = some v) (hv : SlV v n) :
    PureV P (.call ⟨.builtin .len, #[x], #[T]⟩) ty (look l base) (.int .i64 n) := by
  rcases hv with ⟨a, rfl, rfl⟩ | ⟨p, cap, rfl, _⟩
  · exact pv_len hU hx
  · exact pv_len hU hx
theorem pv_indexAddr_v {T e sz n : Nat} {v : Value} {i : Int} (hU : ∀ w, (underlying T).run P w = .ok (.slice e) w) (hz : ∀ w, (sizeOf e).run P w = .ok sz w)
    (hx : evO l x = some v) (hy : evO l y = some (.int k i)) (hv : SlV v n) (h0 : 0 ≤ i) (h1 : i < n) : PureV P (.indexAddr T x y) ty (look l base) (.pointer (some ⟨slBase v, i.toNat * sz, none⟩)) := by
  rcases hv with ⟨a, rfl, rfl⟩ | ⟨p, cap, rfl, _⟩
  · omega
  · exact pv_conv (pv_indexAddr hU hz hx hy h0 h1) (by simp [slBase])
end
section
variable {P : Program} {ty : TypeId} {l : List (Nat × Value)} {base : Env} {L M : List SL} {x y : Operand}
theorem pv_build_a {S e : TypeId} {n sz : Nat} {ps : Array (Nat × Operand)} {z : Value} {vs cs : List Value} (hU : ∀ w, (underlying S).run P w = .ok (.array n e) w) (hS : ∀ w, (sizeOf e).run P w = .ok sz w) (hZ : ∀ w, (zeroValue S).run P w = .ok z w)
    (hps : partsO l 0 ps.toList = some vs) (hv : vs.all (fun v => Nat.beq (cellsL v).length sz) = true) (hz : Nat.beq (cellsL z).length (vs.length * sz) = true) (hc : flatC vs = cs) : PureV P (.build S ps) ty (look l base) (.agg cs.toArray) := by
  intro w
  have e1 : (ps.map fun (i, x) => (i, ev (look l base) x)).toList = enumP 0 vs := by
    rw [Array.toList_map]; exact partsO_map _ _ _ hps
  have e2 := fill_enum sz vs 0 [] (cellsL z) (by
    intro v hv'
    rw [List.all_eq_true] at hv
    exact Nat.eq_of_beq_eq_true (hv v hv')) (by simp) (Nat.eq_of_beq_eq_true hz)
  rw [List.nil_append, List.nil_append] at e2
  simp only [execU, execOp, Instr.build, Sem.run_bind, hZ, hU, Result.andThen_ok, hS, e1]
  rw [cellsL_cells z, e2, ← flatC_eq, hc]
  simp
theorem pv_build_a0 {S e : TypeId} {n sz : Nat} {ps : Array (Nat × Operand)} {z : Value} {cs : List Value} (hU : ∀ w, (underlying S).run P w = .ok (.array n e) w) (hS : ∀ w, (sizeOf e).run P w = .ok sz w) (hZ : ∀ w, (zeroValue S).run P w = .ok z w)
    (hps : ps.toList = []) (hc : cellsL z = cs) : PureV P (.build S ps) ty (look l base) (.agg cs.toArray) := by
  intro w
  have e1 : (ps.map fun (i, x) => (i, ev (look l base) x)).toList = [] := by
    rw [Array.toList_map, hps]; rfl
  simp only [execU, execOp, Instr.build, Sem.run_bind, hZ, hU, Result.andThen_ok, hS, e1]
  rw [cellsL_cells z, hc]
  simp [Instr.fill]
theorem ReadV.unfold {α : Type} {A : SL} {p : α → Prop} {As : α → List SL} {op : Op} {env : Env} {v : Value} (h : Unfold A p As) (hp : Pick A L M) (t : ∀ x, p x → ReadV P op ty env (As x ++ M) v) : ReadV P op ty env L v := by
  intro F w hw
  obtain ⟨x, hx, h2⟩ := h F w M (hw.perm hp.perm)
  exact t x hx F w h2
theorem EffT.unfold {α : Type} {A : SL} {p : α → Prop} {As : α → List SL} {op : Op} {env : Env} {K : Value → List SL → Prop} (h : Unfold A p As) (hp : Pick A L M) (t : ∀ x, p x → EffT P op ty env (As x ++ M) K) : EffT P op ty env L K := by
  intro F w hw
  obtain ⟨x, hx, h2⟩ := h F w M (hw.perm hp.perm)
  exact t x hx F w h2
theorem EffT.fold {op : Op} {env : Env} {K K' : Value → List SL → Prop} (h : EffT P op ty env L K) (hk : ∀ v L', K v L' → ∃ L'', K' v L'' ∧ ∀ F w, Holds L' F w → Holds L'' F w) : EffT P op ty env L K' := by
  intro F w hw
  refine NextWp.mono ?_ (h F w hw)
  rintro v w' ⟨h1, L', h2, h3⟩
  obtain ⟨L'', h4, h5⟩ := hk v L' h2
  exact ⟨h1, L'', h4, h5 F w' h3⟩
end
theorem putFrom_one : ∀ (o : Nat) (cs : List Value) (v : Value), o < cs.length → putFrom o cs [v] = some (cs.set o v) := by
  intro o
  induction o with
  | zero =>
    intro cs v h
    cases cs with
    | nil => simp at h
    | cons c cs => simp [putFrom, putL]
  | succ o ih =>
    intro cs v h
    cases cs with
    | nil => simp at h
    | cons c cs => simp [putFrom, ih cs v (by simpa using h)]
theorem ef_store_set {P : Program} {t ty : TypeId} {l : List (Nat × Value)} {base : Env} {L M : List SL} {x y : Operand} {K : Value → List SL → Prop} {r o T : Nat} {cs cs' : List Value} {v : Value} (hz : ∀ w, (sizeOf t).run P w = .ok 1 w)
    (hx : evO l x = some (.pointer (some ⟨r, o, none⟩))) (hy : evO l y = some v) (h1 : one? v = true)
    (hp : Pick (pt r T cs) L M) (ho : o < cs.length) (hc : cs.set o v = cs') (hk : K undef (pt r T cs' :: M)) : EffT P (.store t x y) ty (look l base) L K := by
  subst hc
  exact ef_store hz hx hy h1 hp (putFrom_one o cs v ho) hk
end Go.Eng
