/- The engine: slices, literals, regions with watched reads. -/
import Derived.Test.YtbmfgngjcpmjeaaGreatEngB
import Derived.Laws.Append
/- The engine, part 8: slices that own their blocks; append, literals. -/
set_option linter.unusedVariables false
set_option linter.unusedSimpArgs false
namespace Go.Eng
open Go
def Sl (e sz n : Nat) (v : Value) (cells : List Value) : SL := fun m =>
  (∃ a, v = .slice a 0 0 ∧ n = 0 ∧ cells = [] ∧ emp m) ∨
  (∃ p cap rest, v = .slice (some ⟨p, 0, none⟩) n cap ∧ cells.length = n * sz ∧ n ≤ cap ∧ (cells ++ rest).length = cap * sz ∧ pt p e (cells ++ rest) m)
theorem holdsM_sl {e sz n : Nat} {v : Value} {cells : List Value} {L : List SL} {F : SL} {w : World} :
    HoldsM (Sl e sz n v cells :: L) F w ↔ (∃ a, v = .slice a 0 0 ∧ n = 0 ∧ cells = [] ∧ HoldsM L F w) ∨
      (∃ p cap rest, v = .slice (some ⟨p, 0, none⟩) n cap ∧ cells.length = n * sz ∧ n ≤ cap ∧ (cells ++ rest).length = cap * sz ∧ HoldsM (pt p e (cells ++ rest) :: L) F w) := by
  constructor
  · rintro ⟨m, hs, hm⟩
    simp only [stars, star_assoc] at hm
    obtain ⟨a, b, hd, rfl, (⟨aa, h1, h2, h3, h4⟩ | ⟨p, cap, rest, h1, h2, h3, h4, h5⟩), hb⟩ := hm
    · refine .inl ⟨aa, h1, h2, h3, cup a b, hs, ?_⟩
      have : cup a b = b := by funext r; unfold cup; rw [h4 r]
      rw [this]; exact hb
    · refine .inr ⟨p, cap, rest, h1, h2, h3, h4, cup a b, hs, ?_⟩
      simp only [stars, star_assoc]
      exact ⟨a, b, hd, rfl, h5, hb⟩
  · rintro (⟨aa, h1, h2, h3, m, hs, hm⟩ | ⟨p, cap, rest, h1, h2, h3, h4, m, hs, hm⟩)
    · refine ⟨m, hs, ?_⟩
      simp only [stars, star_assoc]
      exact ⟨fun _ => none, m, fun _ => .inl rfl, by funext r; rfl, .inl ⟨aa, h1, h2, h3, fun _ => rfl⟩, hm⟩
    · refine ⟨m, hs, ?_⟩
      simp only [stars, star_assoc] at hm ⊢
      obtain ⟨a, b, hd, e', ha, hb⟩ := hm
      exact ⟨a, b, hd, e', .inr ⟨p, cap, rest, h1, h2, h3, h4, ha⟩, hb⟩
theorem holds_sl {e sz n : Nat} {v : Value} {cells : List Value} {L : List SL} {F : Fm} {w : World} :
    Holds (Sl e sz n v cells :: L) F w ↔ (∃ a, v = .slice a 0 0 ∧ n = 0 ∧ cells = [] ∧ Holds L F w) ∨
      (∃ p cap rest, v = .slice (some ⟨p, 0, none⟩) n cap ∧ cells.length = n * sz ∧ n ≤ cap ∧ (cells ++ rest).length = cap * sz ∧ Holds (pt p e (cells ++ rest) :: L) F w) := by
  unfold Holds
  rw [holdsM_sl]
  constructor
  · rintro ⟨h0, (⟨a, h1, h2, h3, h4⟩ | ⟨p, cap, rest, h1, h2, h3, h4, h5⟩)⟩
    · exact .inl ⟨a, h1, h2, h3, h0, h4⟩
    · exact .inr ⟨p, cap, rest, h1, h2, h3, h4, h0, h5⟩
  · rintro (⟨a, h1, h2, h3, h0, h4⟩ | ⟨p, cap, rest, h1, h2, h3, h4, h0, h5⟩)
    · exact ⟨h0, .inl ⟨a, h1, h2, h3, h4⟩⟩
    · exact ⟨h0, .inr ⟨p, cap, rest, h1, h2, h3, h4, h5⟩⟩
section
variable {P : Program} {b : Fr} {n : Nat} {G : FGoal} {k : List Item} {env : Env} {ds : List Nat} {L M : List SL} {e sz m : Nat} {v : Value} {cells : List Value}
end
theorem sl_close {e sz m p cap : Nat} {cells rest : List Value} {L : List SL} {F : Fm} {w : World} (h1 : cells.length = m * sz) (h2 : m ≤ cap) (h3 : (cells ++ rest).length = cap * sz)
    (h : Holds (pt p e (cells ++ rest) :: L) F w) : Holds (Sl e sz m (.slice (some ⟨p, 0, none⟩) m cap) cells :: L) F w := holds_sl.2 (.inr ⟨p, cap, rest, rfl, h1, h2, h3, h⟩)
theorem tr_empty {P : Program} {b : Fr} {n : Nat} {G : FGoal} {k : List Item} {env : Env} {ds : List Nat} {L : List SL} (e sz : Nat) (a : Option Addr)
    (h : Tr P b n G k env ds (Sl e sz 0 (.slice a 0 0) [] :: L)) : Tr P b n G k env ds L := by
  intro F w hw
  exact h F w (holds_sl.2 (.inl ⟨_, rfl, rfl, rfl, hw⟩))
theorem sl_nil {e sz : Nat} {L : List SL} {F : Fm} {w : World} (h : Holds L F w) : Holds (Sl e sz 0 (.slice none 0 0) [] :: L) F w := holds_sl.2 (.inl ⟨_, rfl, rfl, rfl, h⟩)
theorem sl_empty {e sz : Nat} (a : Option Addr) {L : List SL} {F : Fm} {w : World} (h : Holds L F w) : Holds (Sl e sz 0 (.slice a 0 0) [] :: L) F w := holds_sl.2 (.inl ⟨_, rfl, rfl, rfl, h⟩)
theorem sl_nil_empty {e sz : Nat} {v : Value} {cells : List Value} {L : List SL} {F : Fm} {w : World} (h : Holds (Sl e sz 0 v cells :: L) F w) : cells = [] := by
  rcases holds_sl.1 h with ⟨_, _, _, h, _⟩ | ⟨p, cap, rest, _, h, _⟩
  · exact h
  · exact List.eq_nil_of_length_eq_zero (by omega)
section
variable {P : Program} {ty t t' : TypeId} {l : List (Nat × Value)} {base : Env} {L M : List SL} {x y : Operand} {K : Value → List SL → Prop}
theorem rv_len_sl {T e' e sz m : Nat} {v : Value} {cells : List Value} (hU : ∀ w, (underlying T).run P w = .ok (.slice e') w) (hx : evO l x = some v) (hp : Pick (Sl e sz m v cells) L M) :
    ReadV P (.call ⟨.builtin .len, #[x], #[T]⟩) ty (look l base) L (.int .i64 m) := by
  intro F w hw
  rcases holds_sl.1 (hw.perm hp.perm) with ⟨_, rfl, rfl, _, _⟩ | ⟨p, cap, rest, rfl, _⟩
  · exact pv_len hU hx w
  · exact pv_len hU hx w
def Reads (P : Program) (sz m : Nat) (v : Value) (L : List SL) (cs : List Value) : Prop :=
  ∀ F w, Holds L F w → Builtin.lenOf v = Sem.pure m ∧ (Builtin.firstCells sz m v).run P w = .ok cs.toArray w
theorem reads_pt {sz m c r o T : Nat} {cs vs : List Value} (hp : Pick (pt r T cs) L M) (hc : cellsAt cs o (m * sz) = some vs) : Reads P sz m (.slice (some ⟨r, o, none⟩) m c) L vs := by
  refine fun F w hw => ⟨rfl, ?_⟩
  obtain ⟨rfl, hlen⟩ := cellsAt_spec hc
  have hb := hw.perm hp.perm
  have h := run_loadCellsFrom (P := P) (w := w) (r := r) (o := o) (cs := cs.drop o) (fun i v hv => pt_cell hb (by rw [List.getElem?_drop] at hv; exact hv)) (m * sz) 0 #[] (by simp; omega)
  simp only [Builtin.firstCells, loadCells]
  rw [h]
  simp
theorem reads_sl {e sz m : Nat} {v : Value} {cells : List Value} (hp : Pick (Sl e sz m v cells) L M) : Reads P sz m v L cells := by
  intro F w hw
  rcases holds_sl.1 (hw.perm hp.perm) with ⟨aa, rfl, rfl, rfl, _⟩ | ⟨p, cap, rest, rfl, h1, h2, h3, h4⟩
  · exact ⟨rfl, by cases aa <;> simp [Builtin.firstCells, loadCells, loadCellsFrom]⟩
  · refine ⟨rfl, ?_⟩
    have h := run_loadCellsFrom (P := P) (w := w) (r := p) (o := 0) (cs := cells ++ rest) (fun i v hv => by rw [Nat.zero_add]; exact pt_cell h4 hv) (m * sz) 0 #[] (by simp; omega)
    simp only [Builtin.firstCells, loadCells]
    rw [h]
    simp [← h1]
theorem growBy_le (newLen : Nat) : ∀ (rounds c : Nat), c ≤ 2 * newLen + 192 → Builtin.growBy newLen rounds c ≤ 2 * newLen + 192 := by
  intro rounds
  induction rounds with
  | zero => intro c h; exact h
  | succ r ih =>
    intro c h
    simp only [Builtin.growBy]
    split
    · exact h
    · exact ih _ (by omega)
theorem nextslicecap_le {need cap : Nat} (h : cap < need) : Builtin.nextslicecap need cap ≤ 2 * need + 192 := by
  unfold Builtin.nextslicecap
  split
  · omega
  · split
    · omega
    · exact growBy_le _ _ _ (by omega)
theorem zeroCells_eq (zs : List Value) (hz : zs ≠ []) (n : Nat) : Builtin.zeroCells zs.toArray n = (zerosL zs n).toArray := by
  unfold Builtin.zeroCells
  have := zeros_eq zs n hz
  simpa using this
theorem run_firstCells {e sz m : Nat} {v : Value} {cells : List Value} {F : Fm} {w : World} (h : Holds (Sl e sz m v cells :: M) F w) : (Builtin.firstCells sz m v).run P w = .ok cells.toArray w :=
  (reads_sl (P := P) (L := Sl e sz m v cells :: M) .here F w h).2
theorem ef_append {ts tx e e' sz n m : Nat} {ti : TypeInfo} {z sv xv : Value} {cells new : List Value}
    (hU : ∀ w, (underlying ts).run P w = .ok (.slice e) w) (hUx : ∀ w, (underlying tx).run P w = .ok (.slice e') w)
    (hI : ∀ w, (typeInfo e).run P w = .ok ti w) (hS : ∀ w, (sizeOf e).run P w = .ok sz w) (hZ : ∀ w, (zeroValue e).run P w = .ok z w) (hz : ((cellsL z).length == sz && Nat.blt 0 sz) = true)
    (hs : evO l x = some sv) (hx : evO l y = some xv) (hp : Pick (Sl e sz n sv cells) L M) (hr : Reads P sz m xv L new) (hnew : new.length = m * sz) (hone : ∀ v ∈ new, one? v = true)
    (hb : (2 * (n + m) + 192) * (ti.bytes + 1) ≤ 281474976710656) (hk : ∀ v', one? v' = true → K v' (Sl e sz (n + m) v' (cells ++ new) :: M)) :
    EffT P (.call ⟨.builtin .append, #[x, y], #[ts, tx]⟩) ty (look l base) L K := by
  intro F w hw
  simp only [Bool.and_eq_true, beq_iff_eq] at hz
  have hpos : 0 < sz := Nat.blt_eq ▸ hz.2
  have hne : cellsL z ≠ [] := by intro h; rw [h] at hz; simp at hz; omega
  have hw1 := hw.perm hp.perm
  have hbb : (2 * (n + m) + 192) * ti.bytes ≤ 281474976710656 := Nat.le_trans (Nat.mul_le_mul_left _ (by omega)) hb
  have hb2 : 2 * (n + m) + 192 ≤ 281474976710656 := Nat.le_trans (Nat.le_mul_of_pos_right _ (by omega)) hb
  suffices h : ∃ v' w', (Builtin.append_ #[ts, tx] ty #[sv, xv]).run P w = .ok v' w' ∧ Holds (Sl e sz (n + m) v' (cells ++ new) :: M) F w' by
    obtain ⟨v', w', h1, h2⟩ := h
    have hrun : (execU (ev (look l base)) (.call ⟨.builtin .append, #[x, y], #[ts, tx]⟩) ty).run P w = .ok (.value v') w' := by
      simp [execU, execOp, resolve, invoke, builtin, evO_ev hs, evO_ev hx, h1]
    rw [hrun]
    have ho : one? v' = true := by
      rcases holds_sl.1 h2 with ⟨_, rfl, _⟩ | ⟨_, _, _, rfl, _⟩ <;> rfl
    exact ⟨fun hq => by simp [quietOp] at hq, _, hk v' ho, h2⟩
  have hlen := (hr F w hw).1
  have hnewr := fun w hw => (hr F w hw).2
  -- where a new block is laid
  have grown : ∀ (bs : Option Addr) (cap : Nat), sv = .slice bs n cap → cells.length = n * sz → cap < n + m →
      ∃ v' w', (Builtin.append_ #[ts, tx] ty #[sv, xv]).run P w = .ok v' w' ∧ Holds (Sl e sz (n + m) v' (cells ++ new) :: M) F w' := by
    intro bs cap hsv hcl hlt
    have hn : ¬ (n + m ≤ cap) := by omega
    have h63 : ¬ (9223372036854775807 < ((n : Int) + (m : Int))) := by omega
    have hns := nextslicecap_le hlt
    have h48 : ¬ (281474976710656 < Builtin.nextslicecap (n + m) cap * ti.bytes) := by
      have := Nat.mul_le_mul_right ti.bytes hns
      omega
    let c := grownCap w (n + m) cap e
    have hc : n + m ≤ c := by simp only [c, grownCap, Question.cut]; omega
    have hold : (Builtin.firstCells sz n sv).run P w.drew = .ok cells.toArray w.drew := run_firstCells (M := M) (F := F) (hw1.same ⟨rfl, rfl⟩ rfl)
    have hnw : (Builtin.firstCells sz m xv).run P w.drew = .ok new.toArray w.drew := hnewr _ (hw.same ⟨rfl, rfl⟩ rfl)
    have hrun : (Builtin.append_ #[ts, tx] ty #[sv, xv]).run P w =
        .ok (.slice (some ⟨w.heap.size, 0, none⟩) (n + m) c) (w.drew.alloc (.cells (cells.toArray ++ new.toArray ++ Builtin.zeroCells z.cells (c - (n + m))) e)) := by
      subst hsv
      simp [Builtin.append_, hU, hUx, hS, hI, hZ, hlen, hn, h63, h48, Question.forced, hold, hnw, newRow, grownCap, c]
      refine congrArg (fun a => w.drew.alloc (.cells a e)) ?_
      apply Array.toList_inj.1
      simp
    refine ⟨_, _, hrun, ?_⟩
    have hcells : (cells.toArray ++ new.toArray ++ Builtin.zeroCells z.cells (c - (n + m))) = ((cells ++ new) ++ zerosL (cellsL z) (c - (n + m))).toArray := by
      rw [cellsL_cells, zeroCells_eq _ hne]; simp
    rw [hcells]
    have hal : Holds (pt w.heap.size e ((cells ++ new) ++ zerosL (cellsL z) (c - (n + m))) :: (Sl e sz n sv cells :: M)) F (w.drew.alloc (.cells ((cells ++ new) ++ zerosL (cellsL z) (c - (n + m))).toArray e)) :=
      (hw1.same (w' := w.drew) ⟨rfl, rfl⟩ rfl).alloc ⟨rfl, rfl⟩ rfl
    refine sl_close ?_ hc ?_ (hal.perm (List.Perm.swap _ _ _)).drop
    · rw [List.length_append, hcl, hnew, Nat.add_mul]
    · rw [List.length_append, List.length_append, zerosL_length, hcl, hnew, hz.1, ← Nat.add_mul, ← Nat.add_mul]
      congr 1
      omega
  rcases holds_sl.1 hw1 with ⟨aa, h1, h2, h3, h4⟩ | ⟨p, cap, rest, h1, h2, h3, h4, h5⟩
  · subst h1; subst h2; subst h3
    by_cases hm : m = 0
    · subst hm
      have hnil : new = [] := List.eq_nil_of_length_eq_zero (by omega)
      subst hnil
      have hrun : (Builtin.append_ #[ts, tx] ty #[.slice aa 0 0, xv]).run P w = .ok (.slice aa 0 0) w := by
        cases aa <;> simp [Builtin.append_, hU, hUx, hS, hlen, hnewr w hw, storeCells]
      exact ⟨_, _, hrun, sl_empty _ h4⟩
    · exact grown aa 0 rfl (by simp) (by omega)
  · by_cases hroom : n + m ≤ cap
    · subst h1
      have hfit : n * sz + new.length ≤ (cells ++ rest).length := by
        rw [h4, hnew, ← Nat.add_mul]; exact Nat.mul_le_mul_right _ hroom
      obtain ⟨w', h6, h7⟩ := run_storeCells (P := P) new (n * sz) 0 (cells ++ rest) w hone (by simpa using hfit) h5
      have hrun : (Builtin.append_ #[ts, tx] ty #[.slice (some ⟨p, 0, none⟩) n cap, xv]).run P w = .ok (.slice (some ⟨p, 0, none⟩) (n + m) cap) w' := by
        simp [Builtin.append_, hU, hUx, hS, hlen, hroom, hnewr w hw, add_off, h6]
      refine ⟨_, _, hrun, ?_⟩
      have e1 : List.take (n * sz + 0) (cells ++ rest) = cells := by simp [← h2]
      rw [e1] at h7
      refine sl_close ?_ hroom ?_ h7
      · rw [List.length_append, h2, hnew, Nat.add_mul]
      · simp only [List.length_append, List.length_drop] at h4 hfit ⊢
        omega
    · exact grown _ cap h1 h2 (by omega)
theorem ef_append0 {ts tx e e' sz m : Nat} {ti : TypeInfo} {z xv : Value} {a : Option Addr} {new : List Value}
    (hU : ∀ w, (underlying ts).run P w = .ok (.slice e) w) (hUx : ∀ w, (underlying tx).run P w = .ok (.slice e') w)
    (hI : ∀ w, (typeInfo e).run P w = .ok ti w) (hS : ∀ w, (sizeOf e).run P w = .ok sz w) (hZ : ∀ w, (zeroValue e).run P w = .ok z w) (hz : ((cellsL z).length == sz && Nat.blt 0 sz) = true)
    (hs : evO l x = some (.slice a 0 0)) (hx : evO l y = some xv) (hr : Reads P sz m xv L new) (hnew : new.length = m * sz) (hone : ∀ v ∈ new, one? v = true)
    (hb : (2 * m + 192) * (ti.bytes + 1) ≤ 281474976710656) (hk : ∀ v', one? v' = true → K v' (Sl e sz m v' new :: L)) :
    EffT P (.call ⟨.builtin .append, #[x, y], #[ts, tx]⟩) ty (look l base) L K := by
  have h := ef_append (ty := ty) (base := base) (K := K) (L := Sl e sz 0 (.slice a 0 0) [] :: L) (M := L) hU hUx hI hS hZ hz hs hx .here (fun F w hw => hr F w hw.drop) hnew hone (by simpa using hb)
    (fun v' ho => by simpa using hk v' ho)
  exact fun F w hw => h F w (sl_empty a hw)
theorem equalIn_nil {e n cp m c d : Nat} {p : Option Addr} {w : World} (hU : ∀ w, (underlying t).run P w = .ok (.slice e) w) :
    (Op.equalIn (d + 1) t (.slice p n cp) (.slice none m c)).run P w = .ok p.isNone w := by
  cases p <;> simp [Op.equalIn, hU]
theorem pv_eq_nil {e n cp m c : Nat} {p : Option Addr} (hU : ∀ w, (underlying t).run P w = .ok (.slice e) w) (hx : evO l x = some (.slice p n cp)) (hy : evO l y = some (.slice none m c)) :
    PureV P (.binOp .eql t x y t') ty (look l base) (.bool p.isNone) := fun w => by
  have h : eqGuard .eql t x y (.slice p n cp) (.slice none m c) = pure () := by simp [eqGuard]
  have h2 : (Op.equal t (.slice p n cp) (.slice none m c)).run P w = .ok p.isNone w := equalIn_nil (d := 9999) hU
  simp [execU, execOp, evO_ev hx, evO_ev hy, h, binOp, h2]
theorem foldl_set (v : List Value) : ∀ (i : Nat) (cs : List Value), i + v.length ≤ cs.length →
    ((v.zipIdx).foldl (fun (cs : Array Value) (x : Value × Nat) => cs.setIfInBounds (i + x.2) x.1) cs.toArray) = (cs.take i ++ v ++ cs.drop (i + v.length)).toArray := by
  have key : ∀ (v : List Value) (k i : Nat) (cs : List Value), i + k + v.length ≤ cs.length →
      ((v.zipIdx k).foldl (fun (cs : Array Value) (x : Value × Nat) => cs.setIfInBounds (i + x.2) x.1) cs.toArray) = (cs.take (i + k) ++ v ++ cs.drop (i + k + v.length)).toArray := by
    intro v
    induction v with
    | nil => intro k i cs h; simp
    | cons a v ih =>
      intro k i cs h
      simp only [List.length_cons] at h
      simp only [List.zipIdx_cons, List.foldl_cons]
      have e : cs.toArray.setIfInBounds (i + k) a = (cs.set (i + k) a).toArray := by simp
      rw [e, ih (k + 1) i (cs.set (i + k) a) (by simp; omega)]
      have h1 : List.take (i + (k + 1)) (cs.set (i + k) a) = List.take (i + k) cs ++ [a] := by
        rw [show i + (k + 1) = (i + k) + 1 by omega, List.take_succ_eq_append_getElem (by simp; omega), List.take_set_of_le (Nat.le_refl _)]
        simp
      have h2 : List.drop (i + (k + 1) + v.length) (cs.set (i + k) a) = List.drop (i + k + (v.length + 1)) cs := by
        rw [List.drop_set_of_lt (by omega)]; congr 1; omega
      rw [h1, h2]
      simp
  intro i cs h
  simpa using key v 0 i cs (by simpa using h)
def enumP : Nat → List Value → List (Nat × Value)
  | _, [] => []
  | i, v :: vs => (i, v) :: enumP (i + 1) vs
theorem fill_enum (sz : Nat) : ∀ (vs : List Value) (i : Nat) (pre post : List Value), (∀ v ∈ vs, (cellsL v).length = sz) → pre.length = i * sz → post.length = vs.length * sz →
    Instr.fill (fun i => some (i * sz, sz)) (pre ++ post).toArray (enumP i vs) = some (pre ++ vs.flatMap cellsL).toArray := by
  intro vs
  induction vs with
  | nil =>
    intro i pre post _ _ hpost
    have : post = [] := List.eq_nil_of_length_eq_zero (by simpa using hpost)
    subst this
    simp [enumP, Instr.fill]
  | cons v vs ih =>
    intro i pre post hv hpre hpost
    have hvl := hv v (List.mem_cons_self)
    simp only [List.length_cons, Nat.add_mul, Nat.one_mul] at hpost
    simp only [enumP, Instr.fill]
    have h1 : ¬ ((v.cells.size ≠ sz || decide (i * sz + v.cells.size > (pre ++ post).toArray.size)) = true) := by
      rw [cellsL_cells]; simp [hvl]; omega
    rw [if_neg h1]
    have h2 : (v.cells.zipIdx.foldl (fun cs x => cs.setIfInBounds (i * sz + x.2) x.1) (pre ++ post).toArray) = ((pre ++ cellsL v) ++ post.drop sz).toArray := by
      rw [cellsL_cells]
      have h3 := foldl_set (cellsL v) (i * sz) (pre ++ post) (by simp [hvl]; omega)
      have h4 : ((cellsL v).toArray.zipIdx.foldl (fun cs x => cs.setIfInBounds (i * sz + x.2) x.1) (pre ++ post).toArray) =
          ((cellsL v).zipIdx.foldl (fun (cs : Array Value) (x : Value × Nat) => cs.setIfInBounds (i * sz + x.2) x.1) (pre ++ post).toArray) := by
        rw [← Array.foldl_toList]; simp
      rw [h4, h3]
      congr 1
      rw [hvl, ← hpre]
      simp [List.drop_append]
    have h5 := ih (i + 1) (pre ++ cellsL v) (post.drop sz) (fun u hu => hv u (List.mem_cons_of_mem _ hu)) (by simp [hpre, hvl, Nat.add_mul]) (by simp; omega)
    simp only [List.flatMap_cons]
    rw [← List.append_assoc, ← h5, ← h2]
def partsO (l : List (Nat × Value)) : Nat → List (Nat × Operand) → Option (List Value)
  | _, [] => some []
  | i, (j, x) :: ps => bif Nat.beq i j then (match evO l x, partsO l (i + 1) ps with
    | some v, some vs => some (v :: vs)
    | _, _ => none) else none
theorem partsO_map : ∀ (ps : List (Nat × Operand)) (i : Nat) (vs : List Value), partsO l i ps = some vs → ps.map (fun (i, x) => (i, ev (look l base) x)) = enumP i vs := by
  intro ps
  induction ps with
  | nil => intro i vs h; simp [partsO] at h; subst h; rfl
  | cons p ps ih =>
    obtain ⟨j, x⟩ := p
    intro i vs h
    simp only [partsO] at h
    cases hb : Nat.beq i j
    · rw [hb] at h; cases h
    · rw [hb] at h
      simp only [cond_true] at h
      have : i = j := Nat.eq_of_beq_eq_true hb
      subst this
      split at h
      · rename_i v us h1 h2
        injection h with h; subst h
        simp only [List.map_cons, enumP, evO_ev h1, ih _ _ h2]
      · cases h
def flatC : List Value → List Value
  | [] => []
  | v :: vs => cellsL v ++ flatC vs
theorem flatC_eq : ∀ (vs : List Value), flatC vs = vs.flatMap cellsL := by
  intro vs
  induction vs with
  | nil => rfl
  | cons v vs ih => simp only [flatC, List.flatMap_cons, ih]
theorem ef_buildSlice {T e sz n : Nat} {z : Value} {ps : Array (Nat × Operand)} {vs cs : List Value} (hU : ∀ w, (underlying T).run P w = .ok (.slice e) w) (hS : ∀ w, (sizeOf e).run P w = .ok sz w)
    (hZ : ∀ w, (zeroValue e).run P w = .ok z w) (hz : ((cellsL z).length == sz && Nat.blt 0 sz) = true) (hps : partsO l 0 ps.toList = some vs) (hn : vs.length = n) (hsm : Nat.ble (n * sz) 1000000 = true)
    (hv : vs.all (fun v => Nat.beq (cellsL v).length sz) = true) (hc : flatC vs = cs)
    (hk : ∀ r, K (.slice (some ⟨r, 0, none⟩) n n) (pt r e cs :: L)) : EffT P (.buildSlice T n ps) ty (look l base) L K := by
  rw [flatC_eq] at hc
  subst hc
  intro F w hw
  simp only [Bool.and_eq_true, beq_iff_eq] at hz
  have hpos : 0 < sz := Nat.blt_eq ▸ hz.2
  have hne : cellsL z ≠ [] := by intro h; rw [h] at hz; simp at hz; omega
  have hsm' : n * sz ≤ 1000000 := Nat.le_of_ble_eq_true hsm
  have hparts : (ps.map fun (i, x) => (i, ev (look l base) x)).toList = enumP 0 vs := by
    rw [Array.toList_map]; exact partsO_map _ _ _ hps
  have hfill : Instr.fill (fun i => some (i * sz, sz)) (zerosL (cellsL z) n).toArray (enumP 0 vs) = some (vs.flatMap cellsL).toArray := by
    have := fill_enum sz vs 0 [] (zerosL (cellsL z) n) (fun v hv' => Nat.eq_of_beq_eq_true (List.all_eq_true.1 hv v hv')) (by simp) (by rw [zerosL_length, hz.1, hn])
    simpa using this
  have hrun : (execU (ev (look l base)) (.buildSlice T n ps) ty).run P w = .ok (.value (.slice (some ⟨w.heap.size, 0, none⟩) n n)) { w with heap := w.heap.push (.cells (vs.flatMap cellsL).toArray e) } := by
    have t1 : ¬ (n * sz > 2 ^ 24) := by
      have : (2 : Nat) ^ 24 = 16777216 := rfl
      omega
    simp only [execU, execOp, Instr.buildSlice, Sem.run_bind, hU, Result.andThen_ok, hS, if_neg t1]
    by_cases h0 : n * sz = 0
    · have hn0 : n = 0 := by
        rcases Nat.mul_eq_zero.1 h0 with h | h
        · exact h
        · omega
      subst hn0
      have hv0 : vs = [] := List.eq_nil_of_length_eq_zero hn
      subst hv0
      have hps0 : ps.toList = [] := by
        have := congrArg List.length hparts
        simp [enumP] at this
        simpa using this
      have hr0 : Array.range 0 = #[] := by apply Array.ext <;> simp
      have hps1 : ps = #[] := by apply Array.toList_inj.1; simpa using hps0
      subst hps1
      simp [hr0, Instr.fill, newRow]
    · simp only [h0, if_false, Sem.run_bind, hZ, Result.andThen_ok, Sem.run_pure]
      have := zeros_eq (cellsL z) n hne
      rw [hz.1] at this
      rw [cellsL_cells z, this, hparts, hfill]
      simp [newRow]
  rw [hrun]
  exact ⟨fun _ => grow_push _ _, _, hk _, hw.alloc ⟨rfl, rfl⟩ rfl⟩
def buildC (pl : List (Nat × Nat)) : List Value → List (Nat × Value) → Option (List Value)
  | cs, [] => some cs
  | cs, (i, v) :: us => match pl[i]? with
    | none => none
    | some (o, s) => bif Nat.beq (cellsL v).length s then (match setC cs o (cellsL v) with
      | some cs' => buildC pl cs' us
      | none => none) else none
theorem buildC_fill (pl : List (Nat × Nat)) : ∀ (us : List (Nat × Value)) (cs cs' : List Value), buildC pl cs us = some cs' → Instr.fill (fun (i : Nat) => pl[i]?) cs.toArray us = some cs'.toArray := by
  intro us
  induction us with
  | nil => intro cs cs' h; simp [buildC] at h; subst h; rfl
  | cons u us ih =>
    obtain ⟨i, v⟩ := u
    intro cs cs' h
    simp only [buildC] at h
    simp only [Instr.fill]
    cases hp : pl[i]? with
    | none => rw [hp] at h; cases h
    | some os =>
      obtain ⟨o, s⟩ := os
      rw [hp] at h
      dsimp only at h ⊢
      cases hb : Nat.beq (cellsL v).length s with
      | false => rw [hb] at h; cases h
      | true =>
        rw [hb] at h
        have hs : (cellsL v).length = s := Nat.eq_of_beq_eq_true hb
        simp only [cond_true] at h
        cases hc : setC cs o (cellsL v) with
        | none => rw [hc] at h; cases h
        | some cs1 =>
          rw [hc] at h
          dsimp only at h
          obtain ⟨h1, h2⟩ := setC_spec hc
          have e1 : ¬ ((v.cells.size ≠ s || decide (o + v.cells.size > cs.toArray.size)) = true) := by
            rw [cellsL_cells]; simp [hs]; omega
          rw [if_neg e1]
          have e2 : (v.cells.zipIdx.foldl (fun cs x => cs.setIfInBounds (o + x.2) x.1) cs.toArray) = cs1.toArray := by
            rw [cellsL_cells]
            have h3 := foldl_set (cellsL v) o cs h1
            have h4 : ((cellsL v).toArray.zipIdx.foldl (fun cs x => cs.setIfInBounds (o + x.2) x.1) cs.toArray) =
                ((cellsL v).zipIdx.foldl (fun (cs : Array Value) (x : Value × Nat) => cs.setIfInBounds (o + x.2) x.1) cs.toArray) := by
              rw [← Array.foldl_toList]; simp
            rw [h4, h3, h2]
          have e3 := ih cs1 cs' h
          rw [← e2] at e3
          exact e3
def partsS (l : List (Nat × Value)) : List (Nat × Operand) → Option (List (Nat × Value))
  | [] => some []
  | (i, x) :: ps => match evO l x, partsS l ps with
    | some v, some us => some ((i, v) :: us)
    | _, _ => none
theorem partsS_map : ∀ (ps : List (Nat × Operand)) (us : List (Nat × Value)), partsS l ps = some us → ps.map (fun (i, x) => (i, ev (look l base) x)) = us := by
  intro ps
  induction ps with
  | nil => intro us h; simp [partsS] at h; subst h; rfl
  | cons p ps ih =>
    obtain ⟨i, x⟩ := p
    intro us h
    simp only [partsS] at h
    split at h
    · rename_i v us' h1 h2
      injection h with h; subst h
      simp only [List.map_cons, evO_ev h1, ih _ h2]
    · cases h
theorem pv_build {S : TypeId} {ps : Array (Nat × Operand)} {z : Value} {fs : Array Field} {pl : List (Nat × Nat)} {us : List (Nat × Value)} {zc cs : List Value}
    (hU : ∀ w, (underlying S).run P w = .ok (.struct fs) w) (hZ : ∀ w, (zeroValue S).run P w = .ok z w)
    (hpl : ∀ w, (fs.mapM (m := Sem) fun f => do pure (f.offset, ← sizeOf f.type)).run P w = .ok pl.toArray w) (hz : cellsL z = zc)
    (hps : partsS l ps.toList = some us) (hb : buildC pl zc us = some cs) : PureV P (.build S ps) ty (look l base) (.agg cs.toArray) := by
  subst hz
  intro w
  have e1 : (ps.map fun (i, x) => (i, ev (look l base) x)).toList = us := by
    rw [Array.toList_map]; exact partsS_map _ _ hps
  simp only [execU, execOp, Instr.build, Sem.run_bind, hZ, hU, Result.andThen_ok, hpl, e1]
  have e2 : (fun (i : Nat) => pl.toArray[i]?) = (fun (i : Nat) => pl[i]?) := by funext i; simp
  have e3 := buildC_fill pl us (cellsL z) cs hb
  rw [cellsL_cells z, e2, e3]
  simp
end
end Go.Eng
namespace Go.Eng
open Go
section
variable {P : Program} {b : Fr} {n : Nat} {G : FGoal} {k : List Item} {l : List (Nat × Value)} {base : Env} {ds : List Nat} {L M : List SL} {ops : Array Oper} {os : List Oper} {rem : List Nat}
theorem trl_split (j : Nat) {p : Prop} [Decidable p] (hg : gval ops l j = some (.bool (decide p))) (h1 : p → TrL P b n G ops os k (look l base) ds L) (h2 : ¬ p → TrL P b n G ops os k (look l base) ds L) :
    TrL P b n G ops os k (look l base) ds L := by by_cases h : p; exact h1 h; exact h2 h
theorem trl_splitb (j : Nat) {t : Bool} (hg : gval ops l j = some (.bool t)) (h1 : t = true → TrL P b n G ops os k (look l base) ds L) (h2 : t = false → TrL P b n G ops os k (look l base) ds L) :
    TrL P b n G ops os k (look l base) ds L := by cases t; exact h2 rfl; exact h1 rfl
theorem loadVar_cell {ty r o T : Nat} {cs : List Value} {v : Value} (hA : ∀ w, (isAgg ty).run P w = .ok false w) (hp : Pick (pt r T cs) L M) (hc : cs[o]? = some v) :
    ∀ F w, Holds L F w → (loadVar ty ⟨r, o, none⟩).run P w = .ok v w := fun F w hw => by
  have h := pt_cell (hw.perm hp.perm) hc
  simp [loadVar, hA, h]
theorem loadVar_agg {ty r o T sz : Nat} {cs vs : List Value} (hA : ∀ w, (isAgg ty).run P w = .ok true w) (hz : ∀ w, (sizeOf ty).run P w = .ok sz w) (hp : Pick (pt r T cs) L M) (hc : cellsAt cs o sz = some vs) :
    ∀ F w, Holds L F w → (loadVar ty ⟨r, o, none⟩).run P w = .ok (.agg vs.toArray) w := fun F w hw => by
  obtain ⟨rfl, hlen⟩ := cellsAt_spec hc
  have hb := hw.perm hp.perm
  have h := run_loadCellsFrom (P := P) (w := w) (r := r) (o := o) (cs := cs.drop o) (fun i v hv => pt_cell hb (by rw [List.getElem?_drop] at hv; exact hv)) sz 0 #[] (by simp; omega)
  simp [loadVar, hA, hz, loadCells]
  rw [h]
  simp
end
end Go.Eng
/- The engine, part 9: slices that are held without being opened; values behind exists; encodings. -/
set_option linter.unusedVariables false
set_option linter.unusedSimpArgs false
namespace Go.Eng
open Go
def slBase : Value → Nat
  | .slice (some a) _ _ => a.block
  | _ => 0
section
variable {P : Program} {ty t t' : TypeId} {l : List (Nat × Value)} {base : Env} {L M : List SL} {x y : Operand} {K : Value → List SL → Prop} {k : IntKind}
theorem sl_at {e sz n : Nat} {v : Value} {cells : List Value} {F : Fm} {w : World} (h : Holds (Sl e sz n v cells :: M) F w) (hn : n ≠ 0) :
    ∃ cap rest, v = .slice (some ⟨slBase v, 0, none⟩) n cap ∧ cells.length = n * sz ∧ n ≤ cap ∧ (cells ++ rest).length = cap * sz ∧ Holds (pt (slBase v) e (cells ++ rest) :: M) F w := by
  rcases holds_sl.1 h with ⟨_, _, h, _⟩ | ⟨p, cap, rest, rfl, h1, h2, h3, h4⟩
  · exact absurd h hn
  · exact ⟨cap, rest, rfl, h1, h2, h3, h4⟩
theorem rv_indexAddr_sl {T e e' sz n : Nat} {v : Value} {i : Int} {cells : List Value} (hU : ∀ w, (underlying T).run P w = .ok (.slice e') w) (hz : ∀ w, (sizeOf e').run P w = .ok sz w)
    (hx : evO l x = some v) (hy : evO l y = some (.int k i)) (hp : Pick (Sl e sz n v cells) L M) (h0 : 0 ≤ i) (h1 : i < n) :
    ReadV P (.indexAddr T x y) ty (look l base) L (.pointer (some ⟨slBase v, i.toNat * sz, none⟩)) := fun F w hw => by
  obtain ⟨cap, rest, hv, _⟩ := sl_at (hw.perm hp.perm) (by omega)
  rw [hv] at hx
  have := pv_indexAddr (ty := ty) (base := base) hU hz hx hy h0 h1 w
  rw [this, Nat.zero_add]
theorem rv_load_sl {e sz n o : Nat} {v u : Value} {cells : List Value} (hA : ∀ w, (isAgg t).run P w = .ok false w) (hx : evO l x = some (.pointer (some ⟨slBase v, o, none⟩)))
    (hp : Pick (Sl e sz n v cells) L M) (hc : cells[o]? = some u) : ReadV P (.load t x) ty (look l base) L u := fun F w hw => by
  have hw' := hw.perm hp.perm
  have hn : n ≠ 0 := by
    rintro rfl
    rw [sl_nil_empty hw'] at hc
    simp at hc
  obtain ⟨cap, rest, hv, h1, h2, h3, h4⟩ := sl_at hw' hn
  have hlt : o < cells.length := (List.getElem?_eq_some_iff.1 hc).1
  exact rv_load (T := e) (cs := cells ++ rest) hA hx .here (by rw [List.getElem?_append_left hlt]; exact hc) F w h4
theorem rv_load_agg_sl {e sz n o s : Nat} {v : Value} {cells us : List Value} (hA : ∀ w, (isAgg t).run P w = .ok true w) (hz : ∀ w, (sizeOf t).run P w = .ok s w)
    (hx : evO l x = some (.pointer (some ⟨slBase v, o, none⟩))) (hp : Pick (Sl e sz n v cells) L M) (hlen : us.length = s) (hc : ∀ i, i < s → cells[o + i]? = us[i]?) (hs : 0 < s) :
    ReadV P (.load t x) ty (look l base) L (.agg us.toArray) := fun F w hw => by
  have hw' := hw.perm hp.perm
  have hn : n ≠ 0 := by
    rintro rfl
    have h0 := hc 0 hs
    rw [sl_nil_empty hw'] at h0
    have hlt : 0 < us.length := by omega
    simp [List.getElem?_eq_getElem hlt] at h0
  obtain ⟨cap, rest, hv, h1, h2, h3, h4⟩ := sl_at hw' hn
  have h5 : ∀ i u, us[i]? = some u → w.cell? ⟨slBase v, o + i, none⟩ = some u := by
    intro i u hu
    have hi : i < us.length := (List.getElem?_eq_some_iff.1 hu).1
    have h6 : cells[o + i]? = some u := by rw [hc i (by omega), hu]
    have hlt : o + i < cells.length := (List.getElem?_eq_some_iff.1 h6).1
    exact pt_cell h4 (by rw [List.getElem?_append_left hlt]; exact h6)
  have h := run_loadCellsFrom (P := P) (w := w) (r := slBase v) (o := o) (cs := us) h5 s 0 #[] (by simp; omega)
  simp [execU, execOp, Instr.loadAt, evO_ev hx, Instr.sureAddr, loadVar, hA, hz, loadCells]
  rw [h]
  simp [← hlen]
theorem set_left {cells rest : List Value} {o : Nat} {u : Value} (h : o < cells.length) : (cells ++ rest).set o u = cells.set o u ++ rest := by
  rw [List.set_append_left _ _ h]
theorem ef_store_sl {e sz n o : Nat} {v u : Value} {cells cells' : List Value} (hz : ∀ w, (sizeOf t).run P w = .ok 1 w) (hx : evO l x = some (.pointer (some ⟨slBase v, o, none⟩))) (hy : evO l y = some u) (h1 : one? u = true)
    (hp : Pick (Sl e sz n v cells) L M) (ho : o < cells.length) (hc : cells.set o u = cells') (hk : K undef (Sl e sz n v cells' :: M)) : EffT P (.store t x y) ty (look l base) L K := by
  subst hc
  intro F w hw
  have hw' := hw.perm hp.perm
  have hn : n ≠ 0 := by
    rintro rfl
    rw [sl_nil_empty hw'] at ho
    simp at ho
  obtain ⟨cap, rest, hv, h2, h3, h4, h5⟩ := sl_at hw' hn
  refine NextWp.mono ?_ (ef_store_s (L := pt (slBase v) e (cells ++ rest) :: M) (M := M) (K := fun v' L' => v' = undef ∧ L' = pt (slBase v) e ((cells ++ rest).set o u) :: M) hz hx hy h1 .here (by simp; omega) ⟨rfl, rfl⟩ F w h5)
  rintro v' w' ⟨hg, L', ⟨rfl, rfl⟩, hL⟩
  refine ⟨hg, _, hk, ?_⟩
  rw [set_left ho] at hL
  rw [hv]
  refine sl_close (by simpa using h2) h3 (by simpa using h4) ?_
  simpa [slBase] using hL
theorem ef_store_agg_sl {e sz n o s : Nat} {v : Value} {cells cells' us : List Value} (hz : ∀ w, (sizeOf t).run P w = .ok s w) (hx : evO l x = some (.pointer (some ⟨slBase v, o, none⟩))) (hy : evO l y = some (.agg us.toArray))
    (h1 : (us.all one? && us.length == s) = true) (hp : Pick (Sl e sz n v cells) L M) (ho : o + us.length ≤ cells.length) (hs : 0 < s) (hc : cells.take o ++ us ++ cells.drop (o + us.length) = cells')
    (hk : K undef (Sl e sz n v cells' :: M)) : EffT P (.store t x y) ty (look l base) L K := by
  subst hc
  simp only [Bool.and_eq_true, beq_iff_eq, List.all_eq_true] at h1
  intro F w hw
  have hw' := hw.perm hp.perm
  have hn : n ≠ 0 := by
    rintro rfl
    have := h1.2
    rw [sl_nil_empty hw', List.length_nil] at ho
    omega
  obtain ⟨cap, rest, hv, h2, h3, h4, h5⟩ := sl_at hw' hn
  refine NextWp.mono ?_ (ef_store_agg_s (L := pt (slBase v) e (cells ++ rest) :: M) (M := M) (K := fun v' L' => v' = undef ∧ L' = pt (slBase v) e ((cells ++ rest).take o ++ us ++ (cells ++ rest).drop (o + us.length)) :: M) hz hx hy h1.1 h1.2 .here (by simp; omega) ⟨rfl, rfl⟩ F w h5)
  rintro v' w' ⟨hg, L', ⟨rfl, rfl⟩, hL⟩
  refine ⟨hg, _, hk, ?_⟩
  have e1 : (cells ++ rest).take o ++ us ++ (cells ++ rest).drop (o + us.length) = (cells.take o ++ us ++ cells.drop (o + us.length)) ++ rest := by
    rw [List.take_append_of_le_length (by omega), List.drop_append_of_le_length (by omega)]
    simp
  rw [e1] at hL
  rw [hv]
  have e2 : (cells.take o ++ us ++ cells.drop (o + us.length)).length = cells.length := by simp; omega
  refine sl_close (rest := rest) (by rw [e2]; exact h2) h3 (by rw [List.length_append, e2, ← List.length_append]; exact h4) ?_
  simpa [slBase] using hL
def subV (v : Value) (i j sz : Nat) : Value :=
  match v with
  | .slice p n cp => .slice (sliceAddr p i cp sz) (j - i) (cp - i)
  | v => v
theorem rv_slice_sl {T e e' sz n : Nat} {v : Value} {cells : List Value} {lo hi : Option Operand} {i j : Int} {k' : IntKind} (hU : ∀ w, (underlying T).run P w = .ok (.slice e') w) (hz : ∀ w, (sizeOf e').run P w = .ok sz w)
    (hx : evO l x = some v) (hp : Pick (Sl e sz n v cells) L M) (hlo : (match lo with | none => some (.int .i64 0) | some z => evO l z) = some (.int k i)) (hhi : (match hi with | none => some (.int .i64 n) | some z => evO l z) = some (.int k' j))
    (h0 : 0 ≤ i) (h1 : i ≤ j) (h2 : j ≤ n) : ReadV P (.slice T x lo hi none) ty (look l base) L (subV v i.toNat j.toNat sz) := fun F w hw => by
  rcases holds_sl.1 (hw.perm hp.perm) with ⟨a, rfl, rfl, rfl, _⟩ | ⟨p, cap, rest, rfl, h3, h4, h5, h6⟩
  · exact pv_slice hU hz hx hlo hhi h0 h1 (by omega) (by omega) w
  · exact pv_slice hU hz hx hlo hhi h0 h1 (by omega) h4 w
theorem reads_sub {e sz n i j : Nat} {v : Value} {cells vs : List Value} (hp : Pick (Sl e sz n v cells) L M) (h1 : i ≤ j) (h2 : j ≤ n) (hc : (cells.drop (i * sz)).take ((j - i) * sz) = vs) : Reads P sz (j - i) (subV v i j sz) L vs := by
  subst hc
  intro F w hw
  rcases holds_sl.1 (hw.perm hp.perm) with ⟨a, rfl, rfl, rfl, _⟩ | ⟨p, cap, rest, rfl, h3, h4, h5, h6⟩
  · have hi : i = 0 := by omega
    have hj : j = 0 := by omega
    subst hi; subst hj
    refine ⟨rfl, ?_⟩
    cases a <;> simp [subV, sliceAddr, Builtin.firstCells, loadCells, loadCellsFrom]
  · refine ⟨rfl, ?_⟩
    have h7 := Nat.mul_le_mul_right sz h2
    have h8 := Nat.mul_le_mul_right sz h1
    simp only [List.length_append] at h5
    simp only [subV, sliceAddr]
    by_cases hic : cap = i
    · have hji : j - i = 0 := by omega
      simp only [if_pos hic, hji, Nat.zero_mul, Builtin.firstCells, loadCells, loadCellsFrom]
      simp
    · rw [if_neg hic]
      have h := run_loadCellsFrom (P := P) (w := w) (r := p) (o := i * sz) (cs := (cells ++ rest).drop (i * sz)) (fun q u hq => pt_cell h6 (by rw [List.getElem?_drop] at hq; exact hq)) ((j - i) * sz) 0 #[] (by simp [Nat.sub_mul]; omega)
      simp only [Option.map_some, add_off, Nat.zero_add, Builtin.firstCells, loadCells]
      rw [h]
      have e1 : ((cells ++ rest).drop (i * sz)).take ((j - i) * sz) = (cells.drop (i * sz)).take ((j - i) * sz) := by
        rw [List.drop_append_of_le_length (by omega), List.take_append_of_le_length (by simp [Nat.sub_mul]; omega)]
      simp [e1]
def Fold (As : List SL) (A : SL) : Prop := ∀ F w N, Holds (As ++ N) F w → Holds (A :: N) F w
def isNilV : Value → Bool
  | .slice none _ _ => true
  | _ => false
theorem rv_eq_nil_sl {t' e e' sz n m c : Nat} {v : Value} {cells : List Value} (hU : ∀ w, (underlying t).run P w = .ok (.slice e') w) (hx : evO l x = some v) (hy : evO l y = some (.slice none m c)) (hp : Pick (Sl e sz n v cells) L M) :
    ReadV P (.binOp .eql t x y t') ty (look l base) L (.bool (isNilV v)) := fun F w hw => by
  rcases holds_sl.1 (hw.perm hp.perm) with ⟨a, rfl, rfl, rfl, _⟩ | ⟨p, cap, rest, rfl, h3, h4, h5, h6⟩
  · rw [pv_eq_nil hU hx hy w]; cases a <;> rfl
  · rw [pv_eq_nil hU hx hy w]; rfl
theorem tr_nilV {b : Fr} {n' : Nat} {G : FGoal} {kk : List Item} {env : Env} {ds : List Nat} {e sz n : Nat} {v : Value} {cells : List Value} (hp : Pick (Sl e sz n v cells) L M) (h : isNilV v = true)
    (ht : v = .slice none 0 0 → n = 0 → cells = [] → Tr P b n' G kk env ds L) : Tr P b n' G kk env ds L := by
  intro F w hw
  rcases holds_sl.1 (hw.perm hp.perm) with ⟨a, rfl, rfl, rfl, _⟩ | ⟨p, cap, rest, rfl, h3, h4, h5, h6⟩
  · cases a with
    | none => exact ht rfl rfl rfl F w hw
    | some a => simp [isNilV] at h
  · simp [isNilV] at h
theorem tr_slen {b : Fr} {n' : Nat} {G : FGoal} {kk : List Item} {env : Env} {ds : List Nat} {e sz n : Nat} {v : Value} {cells : List Value} (hp : Pick (Sl e sz n v cells) L M)
    (ht : one? v = true → cells.length = n * sz → Tr P b n' G kk env ds L) : Tr P b n' G kk env ds L := by
  intro F w hw
  rcases holds_sl.1 (hw.perm hp.perm) with ⟨a, rfl, rfl, rfl, _⟩ | ⟨p, cap, rest, rfl, h3, h4, h5, h6⟩
  · exact ht rfl (by simp) F w hw
  · exact ht rfl h3 F w hw
def Rd (L : List SL) (r o : Nat) (v : Value) : Prop := ∀ F w, Holds L F w → w.cell? ⟨r, o, none⟩ = some v
theorem rv_load_rd {r o : Nat} {v : Value} (hA : ∀ w, (isAgg t).run P w = .ok false w) (hx : evO l x = some (.pointer (some ⟨r, o, none⟩))) (hr : Rd L r o v) :
    ReadV P (.load t x) ty (look l base) L v := fun F w hw => by
  have h := hr F w hw
  simp [execU, execOp, Instr.loadAt, evO_ev hx, Instr.sureAddr, loadVar, hA, h]
theorem Rd.cons {A : SL} {r o : Nat} {v : Value} (h : Rd L r o v) : Rd (A :: L) r o v := fun F w hw => h F w hw.drop
theorem Rd.pt {r o T : Nat} {v : Value} {cs : List Value} (hp : Pick (pt r T cs) L M) (hc : cs[o]? = some v) : Rd L r o v := fun F w hw => pt_cell (hw.perm hp.perm) hc
end
theorem ef_make {P : Program} {ty : TypeId} {l : List (Nat × Value)} {base : Env} {L : List SL} {x y : Operand} {K : Value → List SL → Prop} {T e sz : Nat} {z : Value} {zc : List Value} {ti : TypeInfo} {a : Int} (n : Nat)
    (hU : ∀ w, (underlying T).run P w = .ok (.slice e) w) (hI : ∀ w, (typeInfo e).run P w = .ok ti w) (hS : ∀ w, (sizeOf e).run P w = .ok sz w)
    (hZ : ∀ w, (zeroValue e).run P w = .ok z w) (hsz : ((cellsL z).length == sz && Nat.blt 0 sz) = true) (hzc : cellsL z = zc) (hx : evO l x = some (.int .i64 a)) (hy : evO l y = some (.int .i64 a)) (ha : a = (n : Int))
    (hb : ti.bytes * n ≤ 281474976710656 ∧ n ≤ 281474976710656) (hk : ∀ r, K (.slice (some ⟨r, 0, none⟩) n n) (pt r e (zerosL zc n) :: L)) : EffT P (.makeSlice T x y) ty (look l base) L K := by
  subst ha; subst hzc
  refine ef_makeSlice hU hI hS hZ hsz hx hy (by omega) (by omega) ?_ (by omega) ?_
  · have := hb.1
    have e : (ti.bytes : Int) * (n : Int) = ((ti.bytes * n : Nat) : Int) := by simp
    rw [e]; omega
  · simpa using hk
theorem sl_of_pt {e sz n p : Nat} {cells : List Value} (h : cells.length = n * sz) : Fold [pt p e cells] (Sl e sz n (.slice (some ⟨p, 0, none⟩) n n) cells) := by
  intro F w N hw
  refine sl_close (rest := []) h (Nat.le_refl _) (by simpa using h) ?_
  simpa using hw
theorem holds_pure {p : Prop} {L M : List SL} (hp : p) (h : ∀ F w, Holds L F w → Holds M F w) : ∀ F w, Holds L F w → Holds (pure' p :: M) F w :=
  fun F w hw => Holds.pure.2 ⟨hp, h F w hw⟩
theorem holds_eq {As As' L : List SL} (h : ∀ F w, Holds L F w → Holds As' F w) (e : As' = As) : ∀ F w, Holds L F w → Holds As F w := e ▸ h
theorem pv_conv {P : Program} {op : Op} {ty : TypeId} {env : Env} {v v' : Value} (h : PureV P op ty env v) (e : v = v') : PureV P op ty env v' := e ▸ h
theorem keep_int {l : List (Nat × Value)} {i : Nat} {k : IntKind} {a b : Int} (h : lookO l i = some (.int k a)) (e : a = b) : lookO l i = some (.int k b) := e ▸ h
theorem keep_v {l : List (Nat × Value)} {i : Nat} {a b : Value} (h : lookO l i = some a) (e : a = b) : lookO l i = some b := e ▸ h
def u8s (l : List Nat) : List Value := l.map fun (n : Nat) => .int .u8 (n : Int)
def i64s (l : List Int) : List Value := l.map fun (n : Int) => .int .i64 n
def bools (l : List Bool) : List Value := l.map fun (b : Bool) => .bool b
@[simp] theorem u8s_length (l : List Nat) : (u8s l).length = l.length := by simp [u8s]
@[simp] theorem i64s_length (l : List Int) : (i64s l).length = l.length := by simp [i64s]
@[simp] theorem u8s_append (l m : List Nat) : u8s (l ++ m) = u8s l ++ u8s m := by simp [u8s]
@[simp] theorem i64s_append (l m : List Int) : i64s (l ++ m) = i64s l ++ i64s m := by simp [i64s]
theorem u8s_zero : u8s [0] = [.int .u8 0] := rfl
theorem u8s_one (x : Nat) : u8s [x] = [.int .u8 (x : Int)] := rfl
theorem i64s_one (x : Int) : i64s [x] = [.int .i64 x] := rfl
@[simp] theorem u8s_nil : u8s [] = [] := rfl
@[simp] theorem i64s_nil : i64s [] = [] := rfl
theorem u8s_get {l : List Nat} {i : Nat} {x : Nat} (h : l[i]? = some x) : (u8s l)[i]? = some (.int .u8 (x : Int)) := by simp [u8s, h]
theorem i64s_get {l : List Int} {i : Nat} {x : Int} (h : l[i]? = some x) : (i64s l)[i]? = some (.int .i64 x) := by simp [i64s, h]
theorem u8s_set (l : List Nat) (i : Nat) (x : Nat) : (u8s l).set i (.int .u8 (x : Int)) = u8s (l.set i x) := by simp [u8s, List.map_set]
theorem i64s_set (l : List Int) (i : Nat) (x : Int) : (i64s l).set i (.int .i64 x) = i64s (l.set i x) := by simp [i64s, List.map_set]
theorem one_u8s {l : List Nat} : ∀ v ∈ u8s l, one? v = true := by intro v hv; simp [u8s] at hv; obtain ⟨n, _, rfl⟩ := hv; rfl
theorem one_i64s {l : List Int} : ∀ v ∈ i64s l, one? v = true := by intro v hv; simp [i64s] at hv; obtain ⟨n, _, rfl⟩ := hv; rfl
theorem flat_length {α : Type} {enc : α → List Value} {sz : Nat} (h : ∀ x, (enc x).length = sz) : ∀ (l : List α), (l.flatMap enc).length = l.length * sz := by
  intro l
  induction l with
  | nil => simp
  | cons x l ih => simp only [List.flatMap_cons, List.length_append, ih, h, List.length_cons]; rw [Nat.add_mul]; omega
theorem flat_get {α : Type} {enc : α → List Value} {sz : Nat} (h : ∀ x, (enc x).length = sz) : ∀ {l : List α} {i o : Nat} {x : α} {u : Value}, l[i]? = some x → (enc x)[o]? = some u → (l.flatMap enc)[i * sz + o]? = some u := by
  intro l
  induction l with
  | nil => intro i o x u h1 _; simp at h1
  | cons a l ih =>
    intro i o x u h1 h2
    have ho : o < sz := by
      have := (List.getElem?_eq_some_iff.1 h2).1
      rw [h] at this; exact this
    cases i with
    | zero =>
      simp at h1; subst h1
      rw [List.flatMap_cons, Nat.zero_mul, Nat.zero_add, List.getElem?_append_left (by rw [h]; exact ho)]; exact h2
    | succ i =>
      simp at h1
      rw [List.flatMap_cons, Nat.succ_mul, List.getElem?_append_right (by rw [h]; omega), h]
      have e : i * sz + sz + o - sz = i * sz + o := by omega
      rw [e]; exact ih h1 h2
theorem flat_set {α : Type} {enc : α → List Value} {sz : Nat} (h : ∀ x, (enc x).length = sz) : ∀ {l : List α} {i o : Nat} {x x' : α} {u : Value}, l[i]? = some x → o < sz → (enc x).set o u = enc x' → (l.flatMap enc).set (i * sz + o) u = (l.set i x').flatMap enc := by
  intro l
  induction l with
  | nil => intro i o x x' u h1; simp at h1
  | cons a l ih =>
    intro i o x x' u h1 h2 h3
    cases i with
    | zero =>
      simp at h1; subst h1
      rw [List.flatMap_cons, Nat.zero_mul, Nat.zero_add, List.set_append_left _ _ (by rw [h]; exact h2), h3]; rfl
    | succ i =>
      simp at h1
      rw [List.flatMap_cons, Nat.succ_mul, List.set_append_right _ _ (by rw [h]; omega), h]
      have e : i * sz + sz + o - sz = i * sz + o := by omega
      rw [e, ih h1 h2 h3]; rfl
theorem flat_put {α : Type} {enc : α → List Value} {sz : Nat} (h : ∀ x, (enc x).length = sz) : ∀ {l : List α} {i : Nat} {x' : α}, i < l.length → (l.flatMap enc).take (i * sz) ++ enc x' ++ (l.flatMap enc).drop (i * sz + (enc x').length) = (l.set i x').flatMap enc := by
  intro l
  induction l with
  | nil => intro i x' h1; simp at h1
  | cons a l ih =>
    intro i x' h1
    cases i with
    | zero => simp [List.flatMap_cons, h, List.drop_append]
    | succ i =>
      have := ih (i := i) (x' := x') (by simpa using h1)
      simp only [List.flatMap_cons, List.set_cons_succ, Nat.succ_mul]
      rw [← this]
      have e1 : (enc a ++ l.flatMap enc).take (i * sz + sz) = enc a ++ (l.flatMap enc).take (i * sz) := by
        rw [List.take_append, List.take_of_length_le (by rw [h]; omega), h]; congr 2; omega
      have e2 : (enc a ++ l.flatMap enc).drop (i * sz + sz + (enc x').length) = (l.flatMap enc).drop (i * sz + (enc x').length) := by
        rw [List.drop_append, List.drop_of_length_le (by rw [h a]; omega), h a, List.nil_append]; congr 1; omega
      rw [e1, e2]; simp
theorem flat_part {α : Type} {enc : α → List Value} {sz : Nat} (h : ∀ x, (enc x).length = sz) : ∀ {l : List α} {i : Nat} {x : α}, l[i]? = some x → ∀ o, o < sz → (l.flatMap enc)[i * sz + o]? = (enc x)[o]? := by
  intro l i x hx o ho
  have : (enc x)[o]? = some ((enc x)[o]'(by rw [h]; exact ho)) := List.getElem?_eq_getElem _
  rw [this]; exact flat_get h hx this
end Go.Eng
/- The engine, part 10: regions in any order, with reads that are watched. -/
set_option linter.unusedVariables false
set_option linter.unusedSimpArgs false
namespace Go.Eng
open Go
structure Watch where
  op : Op
  ty : TypeId
  env : Env
  v : Value
  B : List Nat
def InvW (P : Program) (Ws : List Watch) (w : World) : Prop := ∀ x ∈ Ws, (execU (ev x.env) x.op x.ty).run P w = .ok (.value x.v) w
def keepW (i : Nat) (Ws : List Watch) : List Watch := Ws.filter fun x => !x.B.contains i
def SeqOpsW (P : Program) (ops : Array Oper) : List Watch → List Nat → Env → World → (Env → World → Prop) → Prop
  | _, [], env, w, K => K env w
  | Ws, i :: l, env, w, K => StepOp P ops i env w (fun env' w' => InvW P (keepW i Ws) w' ∧ SeqOpsW P ops (keepW i Ws) l env' w' K)
def AnyW (P : Program) (ops : Array Oper) (Ws : List Watch) (rem : List Nat) (env : Env) (w : World) (K : Env → World → Prop) : Prop :=
  ∀ l, Sch ops rem l → SeqOpsW P ops Ws l env w K
theorem SeqOpsW.less {P : Program} {ops : Array Oper} {K : Env → World → Prop} : ∀ (l : List Nat) {Ws Ws' : List Watch} {env : Env} {w : World}, (∀ x ∈ Ws', x ∈ Ws) → SeqOpsW P ops Ws l env w K → SeqOpsW P ops Ws' l env w K := by
  intro l
  induction l with
  | nil => intro Ws Ws' env w _ h; exact h
  | cons i l ih =>
    intro Ws Ws' env w hs h
    have hs' : ∀ x ∈ keepW i Ws', x ∈ keepW i Ws := by
      intro x hx
      obtain ⟨h1, h2⟩ := List.mem_filter.1 hx
      exact List.mem_filter.2 ⟨hs x h1, h2⟩
    exact StepOp.mono h fun e w' ⟨h1, h2⟩ => ⟨fun x hx => h1 x (hs' x hx), ih hs' h2⟩
theorem AnyW.any {P : Program} {ops : Array Oper} {rem : List Nat} {env : Env} {w : World} {K : Env → World → Prop} (h : AnyW P ops [] rem env w K) : AnyD P ops rem env w K := by
  have key : ∀ (l : List Nat) (env : Env) (w : World), SeqOpsW P ops [] l env w K → SeqOps P ops l env w K := by
    intro l
    induction l with
    | nil => intro env w h; exact h
    | cons i l ih => intro env w h; exact StepOp.mono h fun e w' ⟨_, h2⟩ => ih e w' h2
  exact fun l hl => key l _ _ (h l hl)
theorem AnyW.nil {P : Program} {ops : Array Oper} {Ws : List Watch} {env : Env} {w : World} {K : Env → World → Prop} (h : K env w) : AnyW P ops Ws [] env w K := by
  intro l hl
  cases hl with
  | nil => exact h
  | cons hi => cases hi
theorem AnyW.branch {P : Program} {ops : Array Oper} {Ws : List Watch} {rem : List Nat} {env : Env} {w : World} {K : Env → World → Prop} (hne : rem ≠ [])
    (h : ∀ i ∈ rem, enabled ops rem i = true → StepOp P ops i env w (fun env' w' => InvW P (keepW i Ws) w' ∧ AnyW P ops (keepW i Ws) (without rem i) env' w' K)) : AnyW P ops Ws rem env w K := by
  intro l hl
  cases hl with
  | nil => exact absurd rfl hne
  | cons hi he hl => exact (h _ hi he).mono fun e w hk => ⟨hk.1, hk.2 _ hl⟩
theorem sch_splitB {ops : Array Oper} {B : List Nat} {i : Nat} (hBi : B.contains i = false) {rem l : List Nat} (hs : Sch ops rem l) :
    i ∈ rem → movable ops false B i rem = true → ∃ l1 l2, l = l1 ++ i :: l2 ∧ (∀ j ∈ l1, indep ops false i j = true ∧ B.contains j = false) ∧ Sch ops (without rem i) (l1 ++ l2) := by
  induction hs with
  | nil => intro h; cases h
  | @cons rem j l hj he hl ih =>
    intro hi hm
    by_cases hji : j = i
    · subst hji
      exact ⟨[], l, rfl, by simp, hl⟩
    · have hm0 := hm
      unfold movable at hm
      rw [List.all_eq_true] at hm
      have hmj := hm j hj
      have hji' : (j == i) = false := by simpa using hji
      rw [hji', Bool.false_or] at hmj
      by_cases hB : B.contains j = true
      · rw [if_pos hB] at hmj
        rw [not_waits he] at hmj
        · cases hmj
        · intro e h
          simp only [Bool.or_eq_true, beq_iff_eq, Bool.and_eq_true, List.contains_eq_mem, decide_eq_true_eq] at h
          rcases h with rfl | h
          · exact hi
          · exact h.2
      · rw [if_neg hB] at hmj
        have hi' : i ∈ without rem j := mem_without.2 ⟨hi, fun e => hji e.symm⟩
        have hm' : movable ops false B i (without rem j) = true := by
          unfold movable
          rw [List.all_eq_true]
          intro x hx
          obtain ⟨hx1, hx2⟩ := mem_without.1 hx
          have hmx := hm x hx1
          simp only [Bool.or_eq_true] at hmx ⊢
          rcases hmx with h | h
          · exact .inl h
          · refine .inr ?_
            split
            · rename_i hBx
              rw [if_pos hBx] at h
              refine waits_mono h fun e h => ?_
              simp only [Bool.or_eq_true, beq_iff_eq, Bool.and_eq_true, List.contains_eq_mem, decide_eq_true_eq] at h ⊢
              rcases h with h | h
              · exact .inl h
              · refine .inr ⟨h.1, mem_without.2 ⟨h.2, ?_⟩⟩
                rintro rfl
                exact hB (by simpa using h.1)
            · rename_i hBx
              rw [if_neg hBx] at h
              exact h
        obtain ⟨l1, l2, rfl, h1, h2⟩ := ih hi' hm'
        refine ⟨j :: l1, l2, rfl, ?_, ?_⟩
        · intro x hx
          rcases List.mem_cons.1 hx with rfl | hx
          · exact ⟨hmj, by simpa using hB⟩
          · exact h1 x hx
        · refine Sch.cons (mem_without.2 ⟨hj, hji⟩) (enabled_without he) ?_
          rw [without_comm]; exact h2
theorem swap_opsW {P : Program} {ops : Array Oper} {i : Nat} {oi : Oper} (hi : ops[i]? = some oi) (x : Watch) {K : Env → World → Prop} {l2 : List Nat} {env : Env}
    (hstep : ∀ env' w', (∀ t ∈ readsOf ops oi, env' t = env t) → InvW P [x] w' → ∀ K', K' (updO env' oi.dst x.v) w' → StepOp P ops i env' w' K') :
    ∀ (l1 : List Nat) (Ws : List Watch) (env' : Env) (w' : World), (∀ t ∈ readsOf ops oi, env' t = env t) → InvW P (x :: Ws) w' → (∀ j ∈ l1, indep ops false i j = true ∧ x.B.contains j = false) →
      SeqOpsW P ops (x :: Ws) (l1 ++ l2) (updO env' oi.dst x.v) w' K → SeqOpsW P ops Ws (l1 ++ i :: l2) env' w' K := by
  intro l1
  induction l1 with
  | nil =>
    intro Ws env' w' he hw _ h
    refine hstep env' w' he (fun y hy => hw y (by simp at hy; subst hy; simp)) _ ⟨fun y hy => hw y (List.mem_cons_of_mem _ (List.mem_filter.1 hy).1), ?_⟩
    exact SeqOpsW.less l2 (fun y hy => List.mem_cons_of_mem _ (List.mem_filter.1 hy).1) h
  | cons j l1 ih =>
    intro Ws env' w' he hw hind h
    simp only [List.cons_append, SeqOpsW] at h ⊢
    obtain ⟨hij, hjB⟩ := hind j (List.mem_cons_self)
    unfold indep at hij
    rw [hi] at hij
    cases hj : ops[j]? with
    | none => rw [hj] at hij; simp at hij
    | some oj =>
      rw [hj] at hij
      simp only [Bool.and_eq_true] at hij
      obtain ⟨⟨ha, hs⟩, _⟩ := hij
      have hk : keepW j (x :: Ws) = x :: keepW j Ws := by
        unfold keepW
        rw [List.filter_cons_of_pos (by simpa using hjB)]
      rw [hk] at h
      have h2 := StepOp.apart hi hj ha hs h
      refine h2.mono ?_
      rintro e w2 ⟨h3, h4, h5⟩
      exact ⟨fun y hy => h4 y (List.mem_cons_of_mem _ hy), ih (keepW j Ws) e w2 (fun t ht => (h3 t ht).trans (he t ht)) h4 (fun x hx => hind x (List.mem_cons_of_mem _ hx)) h5⟩
theorem AnyW.mover {P : Program} {ops : Array Oper} {Ws : List Watch} {rem : List Nat} {env : Env} {w : World} {K : Env → World → Prop} (i : Nat) {oi : Oper} (hi : ops[i]? = some oi) (x : Watch)
    (hmem : rem.contains i = true) (hBi : x.B.contains i = false) (hm : movable ops false x.B i rem = true) (hI : InvW P (x :: Ws) w)
    (hstep : ∀ env' w', (∀ t ∈ readsOf ops oi, env' t = env t) → InvW P [x] w' → ∀ K', K' (updO env' oi.dst x.v) w' → StepOp P ops i env' w' K')
    (h : AnyW P ops (x :: Ws) (without rem i) (updO env oi.dst x.v) w K) : AnyW P ops Ws rem env w K := by
  intro l hl
  obtain ⟨l1, l2, rfl, h1, h2⟩ := sch_splitB hBi hl (by simpa using hmem) hm
  exact swap_opsW hi x hstep l1 Ws env w (fun _ _ => rfl) hI h1 (h _ h2)
theorem AnyW.pure {P : Program} {ops : Array Oper} {Ws : List Watch} {rem : List Nat} {env : Env} {w : World} {K : Env → World → Prop} (i : Nat) {oi : Oper} (hi : ops[i]? = some oi) (B : List Nat)
    (hmem : rem.contains i = true) (hBi : B.contains i = false) (hm : movable ops false B i rem = true) (hI : InvW P Ws w) {v : Value}
    (hstep : ∀ env' w', (∀ t ∈ readsOf ops oi, env' t = env t) → ∀ K', K' (updO env' oi.dst v) w' → StepOp P ops i env' w' K')
    (h : AnyW P ops Ws (without rem i) (updO env oi.dst v) w K) : AnyW P ops Ws rem env w K := by
  intro l hl
  obtain ⟨l1, l2, rfl, h1, h2⟩ := sch_splitB hBi hl (by simpa using hmem) hm
  have key : ∀ (l1 : List Nat) (Ws : List Watch) (env' : Env) (w' : World), (∀ t ∈ readsOf ops oi, env' t = env t) → InvW P Ws w' → (∀ j ∈ l1, indep ops false i j = true ∧ B.contains j = false) →
      SeqOpsW P ops Ws (l1 ++ l2) (updO env' oi.dst v) w' K → SeqOpsW P ops Ws (l1 ++ i :: l2) env' w' K := by
    intro l1
    induction l1 with
    | nil =>
      intro Ws env' w' he hw _ h
      refine hstep env' w' he _ ⟨fun y hy => hw y (List.mem_filter.1 hy).1, ?_⟩
      exact SeqOpsW.less l2 (fun y hy => (List.mem_filter.1 hy).1) h
    | cons j l1 ih =>
      intro Ws env' w' he hw hind h
      simp only [List.cons_append, SeqOpsW] at h ⊢
      obtain ⟨hij, hjB⟩ := hind j (List.mem_cons_self)
      unfold indep at hij
      rw [hi] at hij
      cases hj : ops[j]? with
      | none => rw [hj] at hij; simp at hij
      | some oj =>
        rw [hj] at hij
        simp only [Bool.and_eq_true] at hij
        obtain ⟨⟨ha, hs⟩, _⟩ := hij
        have h2 := StepOp.apart hi hj ha hs h
        refine h2.mono ?_
        rintro e w2 ⟨h3, h4, h5⟩
        exact ⟨h4, ih (keepW j Ws) e w2 (fun t ht => (h3 t ht).trans (he t ht)) h4 (fun x hx => hind x (List.mem_cons_of_mem _ hx)) h5⟩
  exact key l1 Ws env w (fun _ _ => rfl) hI h1 (h _ h2)
def AllW (P : Program) (L : List SL) : List Watch → Prop
  | [] => True
  | x :: Ws => ReadV P x.op x.ty x.env L x.v ∧ AllW P L Ws
theorem AllW.inv {P : Program} {L : List SL} {F : Fm} {w : World} (hw : Holds L F w) : ∀ {Ws : List Watch}, AllW P L Ws → InvW P Ws w := by
  intro Ws
  induction Ws with
  | nil => intro _ x hx; cases hx
  | cons y Ws ih =>
    rintro ⟨h1, h2⟩ x hx
    rcases List.mem_cons.1 hx with rfl | hx
    · exact h1 F w hw
    · exact ih h2 x hx
def TrW (P : Program) (b : Fr) (n : Nat) (G : FGoal) (ops : Array Oper) (Ws : List Watch) (rem : List Nat) (k : List Item) (env : Env) (ds : List Nat) (L : List SL) : Prop :=
  ∀ F w, Holds L F w → InvW P Ws w → AnyW P ops Ws rem env w (fun env' w' => Run P b n (G F) k env' ds w')
def TrWAt (P : Program) (b : Fr) (n : Nat) (G : FGoal) (ops : Array Oper) (Ws : List Watch) (rem : List Nat) (k : List Item) (env : Env) (ds : List Nat) (L : List SL) (i : Nat) : Prop :=
  ∀ F w, Holds L F w → InvW P Ws w → StepOp P ops i env w (fun env' w' => InvW P (keepW i Ws) w' ∧ AnyW P ops (keepW i Ws) (without rem i) env' w' (fun env'' w'' => Run P b n (G F) k env'' ds w''))
section
variable {P : Program} {b : Fr} {n : Nat} {G : FGoal} {k : List Item} {l : List (Nat × Value)} {base : Env} {env : Env} {ds : List Nat} {L : List SL} {ops : Array Oper} {Ws : List Watch} {rem rem' : List Nat}
theorem tr_draww {id : Nat} (hmix : P.follows .mixedOrders = true) (he : edgesOk ops = true) (hr : List.range ops.size = rem) (h : TrW P b n G ops [] rem k env ds L) :
    Tr P b n G (.code (.region id ops true) :: k) env ds L := by
  refine tr_draw hmix he hr fun F w hw => AnyW.any (h F w hw (fun x hx => by cases hx))
theorem trw_nil (h : Tr P b n G k env ds L) : TrW P b n G ops Ws [] k env ds L := fun F w hw _ => AnyW.nil (h F w hw)
theorem trw_pure (i : Nat) (B : List Nat) {d : Nat} {op : Op} {ty : TypeId} {pos : String} {aft : Array Edge} {v : Value}
    (ho : nthO ops.toList i = some { dst := some d, op := op, type := ty, pos := pos, after := aft, guard := none })
    (hm : (rem.contains i && !B.contains i && movable ops false B i rem && opSup op) = true) (hr : without rem i = rem')
    (hv : PureV P op ty (look l base) v) (h : TrW P b n G ops Ws rem' k (look ((d, v) :: l) base) ds L) : TrW P b n G ops Ws rem k (look l base) ds L := by
  intro F w hw hI
  simp only [Bool.and_eq_true, Bool.not_eq_true'] at hm
  refine AnyW.pure i (at_of_nthO ho) B hm.1.1.1 hm.1.1.2 hm.1.2 hI (v := v) ?_ ?_
  · intro env' w' he K' hk
    unfold StepOp
    rw [at_of_nthO ho]
    dsimp only
    rw [if_pos (guardOk_none rfl)]
    unfold OpWp
    rw [exec_congr (ops := ops) hm.2 he, execOp_U, hv w']
    exact ⟨fun _ => .refl _, hk⟩
  · rw [hr]; exact h F w hw hI
theorem trw_pureg (i : Nat) (B : List Nat) {d : Nat} {op : Op} {ty : TypeId} {pos : String} {aft : Array Edge} {v : Value} {j : Nat} {want t : Bool}
    (ho : nthO ops.toList i = some { dst := some d, op := op, type := ty, pos := pos, after := aft, guard := some (j, want) }) (hg : gval ops l j = some (.bool t)) (ht : t = want)
    (hm : (rem.contains i && !B.contains i && movable ops false B i rem && opSup op) = true) (hr : without rem i = rem')
    (hv : PureV P op ty (look l base) v) (h : TrW P b n G ops Ws rem' k (look ((d, v) :: l) base) ds L) : TrW P b n G ops Ws rem k (look l base) ds L := by
  intro F w hw hI
  simp only [Bool.and_eq_true, Bool.not_eq_true'] at hm
  refine AnyW.pure i (at_of_nthO ho) B hm.1.1.1 hm.1.1.2 hm.1.2 hI (v := v) ?_ ?_
  · intro env' w' he K' hk
    unfold StepOp
    rw [at_of_nthO ho]
    dsimp only
    rw [if_pos (by rw [guard_congr he, guardOk_some rfl hg, ht]; simp)]
    unfold OpWp
    rw [exec_congr (ops := ops) hm.2 he, execOp_U, hv w']
    exact ⟨fun _ => .refl _, hk⟩
  · rw [hr]; exact h F w hw hI
theorem trw_not (i : Nat) (B : List Nat) {d : Nat} {op : Op} {ty : TypeId} {pos : String} {aft : Array Edge} {j : Nat} {want t : Bool}
    (ho : nthO ops.toList i = some { dst := some d, op := op, type := ty, pos := pos, after := aft, guard := some (j, want) }) (hg : gval ops l j = some (.bool t)) (ht : t = !want)
    (hm : (rem.contains i && !B.contains i && movable ops false B i rem && opSup op) = true) (hr : without rem i = rem')
    (h : TrW P b n G ops Ws rem' k (look ((d, undef) :: l) base) ds L) : TrW P b n G ops Ws rem k (look l base) ds L := by
  intro F w hw hI
  simp only [Bool.and_eq_true, Bool.not_eq_true'] at hm
  refine AnyW.pure i (at_of_nthO ho) B hm.1.1.1 hm.1.1.2 hm.1.2 hI (v := undef) ?_ ?_
  · intro env' w' he K' hk
    unfold StepOp
    rw [at_of_nthO ho]
    dsimp only
    rw [if_neg (by rw [guard_congr he, guardOk_some rfl hg, ht]; simp)]
    exact hk
  · rw [hr]; exact h F w hw hI
theorem trw_read (i : Nat) (B : List Nat) {d : Nat} {op : Op} {ty : TypeId} {pos : String} {aft : Array Edge} {v : Value}
    (ho : nthO ops.toList i = some { dst := some d, op := op, type := ty, pos := pos, after := aft, guard := none })
    (hm : (rem.contains i && !B.contains i && movable ops false B i rem && opSup op) = true) (hr : without rem i = rem')
    (hv : ReadV P op ty (look l base) L v) (h : TrW P b n G ops (⟨op, ty, look l base, v, B⟩ :: Ws) rem' k (look ((d, v) :: l) base) ds L) : TrW P b n G ops Ws rem k (look l base) ds L := by
  intro F w hw hI
  simp only [Bool.and_eq_true, Bool.not_eq_true'] at hm
  have hI' : InvW P (⟨op, ty, look l base, v, B⟩ :: Ws) w := by
    intro x hx
    rcases List.mem_cons.1 hx with rfl | hx
    · exact hv F w hw
    · exact hI x hx
  refine AnyW.mover i (at_of_nthO ho) ⟨op, ty, look l base, v, B⟩ hm.1.1.1 hm.1.1.2 hm.1.2 hI' ?_ ?_
  · intro env' w' he hg K' hk
    unfold StepOp
    rw [at_of_nthO ho]
    dsimp only
    rw [if_pos (guardOk_none rfl)]
    unfold OpWp
    have h5 := hg ⟨op, ty, look l base, v, B⟩ (by simp)
    dsimp only at h5
    rw [exec_congr (ops := ops) hm.2 he, execOp_U, h5]
    exact ⟨fun _ => .refl _, hk⟩
  · rw [hr]; exact h F w hw hI'
theorem trw_readg (i : Nat) (B : List Nat) {d : Nat} {op : Op} {ty : TypeId} {pos : String} {aft : Array Edge} {v : Value} {j : Nat} {want t : Bool}
    (ho : nthO ops.toList i = some { dst := some d, op := op, type := ty, pos := pos, after := aft, guard := some (j, want) }) (hg : gval ops l j = some (.bool t)) (ht : t = want)
    (hm : (rem.contains i && !B.contains i && movable ops false B i rem && opSup op) = true) (hr : without rem i = rem')
    (hv : ReadV P op ty (look l base) L v) (h : TrW P b n G ops (⟨op, ty, look l base, v, B⟩ :: Ws) rem' k (look ((d, v) :: l) base) ds L) : TrW P b n G ops Ws rem k (look l base) ds L := by
  intro F w hw hI
  simp only [Bool.and_eq_true, Bool.not_eq_true'] at hm
  have hI' : InvW P (⟨op, ty, look l base, v, B⟩ :: Ws) w := by
    intro x hx
    rcases List.mem_cons.1 hx with rfl | hx
    · exact hv F w hw
    · exact hI x hx
  refine AnyW.mover i (at_of_nthO ho) ⟨op, ty, look l base, v, B⟩ hm.1.1.1 hm.1.1.2 hm.1.2 hI' ?_ ?_
  · intro env' w' he hgg K' hk
    unfold StepOp
    rw [at_of_nthO ho]
    dsimp only
    rw [if_pos (by rw [guard_congr he, guardOk_some rfl hg, ht]; simp)]
    unfold OpWp
    have h5 := hgg ⟨op, ty, look l base, v, B⟩ (by simp)
    dsimp only at h5
    rw [exec_congr (ops := ops) hm.2 he, execOp_U, h5]
    exact ⟨fun _ => .refl _, hk⟩
  · rw [hr]; exact h F w hw hI'
theorem trw_branch (E : List Nat) (hE : (enabledL ops rem == E && !rem.isEmpty) = true) (h : allOf (TrWAt P b n G ops Ws rem k env ds L) E) : TrW P b n G ops Ws rem k env ds L := by
  intro F w hw hI
  simp only [Bool.and_eq_true, beq_iff_eq, Bool.not_eq_true', List.isEmpty_eq_false_iff] at hE
  refine AnyW.branch hE.2 fun i hi he => ?_
  have : i ∈ E := by rw [← hE.1]; exact List.mem_filter.2 ⟨hi, he⟩
  exact allOf_mem h i this F w hw hI
theorem trw_one (i : Nat) (hE : (enabledL ops rem == [i] && !rem.isEmpty) = true) (h : TrWAt P b n G ops Ws rem k env ds L i) : TrW P b n G ops Ws rem k env ds L := trw_branch [i] hE h
theorem trwat_eff {i : Nat} {Ws' : List Watch} {d : Nat} {op : Op} {ty : TypeId} {pos : String} {aft : Array Edge}
    (ho : nthO ops.toList i = some { dst := some d, op := op, type := ty, pos := pos, after := aft, guard := none }) (hr : without rem i = rem') (hW : keepW i Ws = Ws')
    (h : EffT P op ty (look l base) L (fun v L' => TrW P b n G ops Ws' rem' k (look ((d, v) :: l) base) ds L' ∧ AllW P L' Ws')) : TrWAt P b n G ops Ws rem k (look l base) ds L i := by
  intro F w hw hI
  unfold StepOp
  rw [at_of_nthO ho]
  dsimp only
  rw [if_pos (guardOk_none rfl), hr, hW]
  unfold OpWp
  rw [execOp_U]
  exact NextWp.mono (fun v w' ⟨h1, L', ⟨h2, h4⟩, h3⟩ => ⟨h1, h4.inv h3, h2 F w' h3 (h4.inv h3)⟩) (h F w hw)
theorem trwat_eff0 {i : Nat} {Ws' : List Watch} {op : Op} {ty : TypeId} {pos : String} {aft : Array Edge}
    (ho : nthO ops.toList i = some { dst := none, op := op, type := ty, pos := pos, after := aft, guard := none }) (hr : without rem i = rem') (hW : keepW i Ws = Ws')
    (h : EffT P op ty (look l base) L (fun _ L' => TrW P b n G ops Ws' rem' k (look l base) ds L' ∧ AllW P L' Ws')) : TrWAt P b n G ops Ws rem k (look l base) ds L i := by
  intro F w hw hI
  unfold StepOp
  rw [at_of_nthO ho]
  dsimp only
  rw [if_pos (guardOk_none rfl), hr, hW]
  unfold OpWp
  rw [execOp_U]
  exact NextWp.mono (fun v w' ⟨h1, L', ⟨h2, h4⟩, h3⟩ => ⟨h1, h4.inv h3, h2 F w' h3 (h4.inv h3)⟩) (h F w hw)
theorem trwat_effg {i : Nat} {Ws' : List Watch} {d : Nat} {op : Op} {ty : TypeId} {pos : String} {aft : Array Edge} {j : Nat} {want t : Bool}
    (ho : nthO ops.toList i = some { dst := some d, op := op, type := ty, pos := pos, after := aft, guard := some (j, want) }) (hg : gval ops l j = some (.bool t)) (ht : t = want) (hr : without rem i = rem') (hW : keepW i Ws = Ws')
    (h : EffT P op ty (look l base) L (fun v L' => TrW P b n G ops Ws' rem' k (look ((d, v) :: l) base) ds L' ∧ AllW P L' Ws')) : TrWAt P b n G ops Ws rem k (look l base) ds L i := by
  intro F w hw hI
  unfold StepOp
  rw [at_of_nthO ho]
  dsimp only
  rw [if_pos (by rw [guardOk_some rfl hg, ht]; simp), hr, hW]
  unfold OpWp
  rw [execOp_U]
  exact NextWp.mono (fun v w' ⟨h1, L', ⟨h2, h4⟩, h3⟩ => ⟨h1, h4.inv h3, h2 F w' h3 (h4.inv h3)⟩) (h F w hw)
theorem trw_splitb (j : Nat) {t : Bool} (hg : gval ops l j = some (.bool t)) (h1 : t = true → TrW P b n G ops Ws rem k (look l base) ds L) (h2 : t = false → TrW P b n G ops Ws rem k (look l base) ds L) :
    TrW P b n G ops Ws rem k (look l base) ds L := by cases t; exact h2 rfl; exact h1 rfl
theorem guardOk_undef {o : Oper} {j : Nat} {want : Bool} (h : o.guard = some (j, want)) (hg : gval ops l j = some undef) : guardOk ops (look l base) o = false := by
  unfold guardOk
  rw [h]
  dsimp only
  unfold gval at hg
  cases hd : dstAt ops j with
  | none => rfl
  | some d =>
    rw [hd] at hg
    dsimp only at hg ⊢
    rw [lookO_look hg]
    rfl
theorem trl_not_u {os : List Oper} {d : Nat} {op : Op} {ty : TypeId} {pos : String} {aft : Array Edge} {j : Nat} {want : Bool} (hg : gval ops l j = some undef)
    (h : TrL P b n G ops os k (look ((d, undef) :: l) base) ds L) :
    TrL P b n G ops ({ dst := some d, op := op, type := ty, pos := pos, after := aft, guard := some (j, want) } :: os) k (look l base) ds L := by
  intro F w hw
  simp only [SeqL]
  rw [if_neg (fun e => by rw [guardOk_undef rfl hg] at e; cases e)]
  exact h F w hw
theorem Tr.fold {A : SL} {As M : List SL} (h : Fold As A) (hp : Picks As L M) (t : Tr P b n G k env ds (A :: M)) : Tr P b n G k env ds L := fun F w hw => t F w (h F w M (hw.picks hp))
theorem TrL.fold {A : SL} {As M : List SL} {os : List Oper} (h : Fold As A) (hp : Picks As L M) (t : TrL P b n G ops os k env ds (A :: M)) : TrL P b n G ops os k env ds L := fun F w hw => t F w (h F w M (hw.picks hp))
theorem TrW.fold {A : SL} {As M : List SL} (h : Fold As A) (hp : Picks As L M) (t : TrW P b n G ops Ws rem k env ds (A :: M)) : TrW P b n G ops Ws rem k env ds L := fun F w hw => t F w (h F w M (hw.picks hp))
def Unfold {α : Type} (A : SL) (p : α → Prop) (As : α → List SL) : Prop := ∀ F w N, Holds (A :: N) F w → ∃ x, p x ∧ Holds (As x ++ N) F w
theorem Tr.unfold {α : Type} {A : SL} {p : α → Prop} {As : α → List SL} {M : List SL} (h : Unfold A p As) (hp : Pick A L M) (t : ∀ x, p x → Tr P b n G k env ds (As x ++ M)) : Tr P b n G k env ds L :=
  fun F w hw => let ⟨x, h1, h2⟩ := h F w M (hw.perm hp.perm); t x h1 F w h2
theorem TrL.unfold {α : Type} {A : SL} {p : α → Prop} {As : α → List SL} {M : List SL} {os : List Oper} (h : Unfold A p As) (hp : Pick A L M) (t : ∀ x, p x → TrL P b n G ops os k env ds (As x ++ M)) : TrL P b n G ops os k env ds L :=
  fun F w hw => let ⟨x, h1, h2⟩ := h F w M (hw.perm hp.perm); t x h1 F w h2
end
section
variable {P : Program} {b : Fr} {n : Nat} {G : FGoal} {k : List Item} {l : List (Nat × Value)} {base : Env} {ds : List Nat} {L : List SL} {ops : Array Oper} {os : List Oper} {Ws : List Watch} {rem rem' : List Nat} {x : Operand} {v : Value} {p : Addr} {d : Nat} {ty : TypeId} {pos : String} {aft : Array Edge}
theorem tmv (hx : evO l x = some v) (h : TrL P b n G ops os k (look ((d, v) :: l) base) ds L) : TrL P b n G ops ({ dst := some d, op := .move x, type := ty, pos := pos, after := aft, guard := none } :: os) k (look l base) ds L := trl_pv (pv_move hx) h
theorem tas (hx : evO l x = some v) (h : TrL P b n G ops os k (look ((d, v) :: l) base) ds L) : TrL P b n G ops ({ dst := some d, op := .assign x, type := ty, pos := pos, after := aft, guard := none } :: os) k (look l base) ds L := trl_pv (pv_assign hx) h
theorem tnc (hx : evO l x = some (.pointer (some p))) (h : TrL P b n G ops os k (look ((d, .pointer (some p)) :: l) base) ds L) : TrL P b n G ops ({ dst := some d, op := .nilCheck x, type := ty, pos := pos, after := aft, guard := none } :: os) k (look l base) ds L := trl_pv (pv_nilCheck hx) h
theorem twm (i : Nat) (B : List Nat) (ho : nthO ops.toList i = some { dst := some d, op := .move x, type := ty, pos := pos, after := aft, guard := none })
    (hm : (rem.contains i && !B.contains i && movable ops false B i rem && opSup (.move x)) = true) (hr : without rem i = rem') (hx : evO l x = some v) (h : TrW P b n G ops Ws rem' k (look ((d, v) :: l) base) ds L) : TrW P b n G ops Ws rem k (look l base) ds L := trw_pure i B ho hm hr (pv_move hx) h
theorem twn (i : Nat) (B : List Nat) (ho : nthO ops.toList i = some { dst := some d, op := .nilCheck x, type := ty, pos := pos, after := aft, guard := none })
    (hm : (rem.contains i && !B.contains i && movable ops false B i rem && opSup (.nilCheck x)) = true) (hr : without rem i = rem') (hx : evO l x = some (.pointer (some p))) (h : TrW P b n G ops Ws rem' k (look ((d, .pointer (some p)) :: l) base) ds L) : TrW P b n G ops Ws rem k (look l base) ds L := trw_pure i B ho hm hr (pv_nilCheck hx) h
end
end Go.Eng
