/- The engine: assertions over memory, judgements on code, regions in every order. -/
import Derived.Calls
import Derived.Laws.Sem
import Derived.Laws.World
/- The engine, part 1: a judgement over the machine's own list of things to do, for functions and for rounds of a range over a function. -/
set_option linter.unusedVariables false
set_option linter.unusedSimpArgs false
namespace Go.Eng
open Go
abbrev Env := Nat → Value
def upd (env : Env) (d : Nat) (v : Value) : Env := fun i => bif Nat.beq d i then v else env i
def updO (env : Env) (d : Option Nat) (v : Value) : Env :=
  match d with
  | some d => upd env d v
  | none => env
structure Fr where
  fn : FuncId
  kind : CallKind
  ro : Option Nat
def Fr.at (b : Fr) (tm : Array Value) (ds : List Deferred) (todo : List Item) : Frame :=
  { fn := b.fn, tmps := tm, todo := todo, defers := ds, mode := .run, kind := b.kind, roundOf := b.ro }
def Rep (tm : Array Value) (env : Env) : Prop := ∀ i, i < tm.size → tm.getD i undef = env i
def ev (env : Env) : Operand → Value
  | .tmp t => env t
  | .const v => v
  | .global g => .pointer (some ⟨g, 0, none⟩)
  | .func f => .func (.func f) #[] #[]
def opdOk (n : Nat) : Operand → Bool
  | .tmp t => Nat.blt t n
  | _ => true
def opSup : Op → Bool
  | .go _ | .defer _ | .send .. | .recv .. | .select .. => false
  | _ => true
def opOk (n : Nat) (o : Oper) : Bool :=
  opSup o.op && o.dst.all (fun d => Nat.blt d n) && o.op.operands.all (opdOk n)
def codeOk (n : Nat) : Code → Bool
  | .skip => true
  | .region _ ops _ => ops.all (opOk n)
  | .seq a b => codeOk n a && codeOk n b
  | .cond c a b => opdOk n c && codeOk n a && codeOk n b
  | .block _ b => codeOk n b
  | .loop b => codeOk n b
  | .rangeFunc f ps a b => opdOk n f && ps.all (fun d => Nat.blt d n) && codeOk n a && codeOk n b
  | .exit _ => true
  | .ret => true
  | .scope _ | .label _ | .goto _ | .refuse _ => false
def itemOk (n : Nat) : Item → Bool
  | .code c => codeOk n c
  | .inBlock _ => true
  | .inLoop c => codeOk n c
  | .inRegion ops l => ops.all (opOk n)
  | .inRangeFunc _ => true
  | .endRangeFunc _ => true
  | .beginRound => true
  | _ => false
def todoOk (n : Nat) (k : List Item) : Prop := ∀ x ∈ k, itemOk n x = true
def mark (r : Nat) : Deferred := { target := .collected r, args := #[] }
theorem Rep.eval {tm : Array Value} {env : Env} (h : Rep tm env) {n : Nat} (hn : tm.size = n) (b : Fr) (ds : List Deferred) (todo : List Item) {x : Operand}
    (hx : opdOk n x = true) : (b.at tm ds todo).eval x = ev env x := by
  cases x with
  | tmp t =>
    have : t < tm.size := by
      rw [hn]; exact Nat.blt_eq ▸ hx
    exact h t this
  | const v => rfl
  | global g => rfl
  | func f => rfl
theorem Rep.upd {tm : Array Value} {env : Env} (h : Rep tm env) (d : Nat) (v : Value) : Rep (tm.setIfInBounds d v) (upd env d v) := by
  intro i hi
  have hi' : i < tm.size := by simpa using hi
  unfold Eng.upd
  by_cases hd : d = i
  · subst hd
    have : Nat.beq d d = true := by simp
    rw [this]
    simp [Array.getD, hi']
  · have : Nat.beq d i = false := by
      cases hb : Nat.beq d i
      · rfl
      · exact absurd (Nat.eq_of_beq_eq_true hb) hd
    rw [this]
    have h2 := h i hi'
    simp [Array.getD, hi'] at h2 ⊢
    rw [Array.getElem_setIfInBounds_ne hi' hd]
    exact h2
theorem Rep.updO {tm : Array Value} {env : Env} (h : Rep tm env) (d : Option Nat) (v : Value) :
    Rep (match d with | some d => tm.setIfInBounds d v | none => tm) (updO env d v) := by
  cases d with
  | none => exact h
  | some d => exact h.upd d v
abbrev Goal := List Frame → Machine → Prop
def Run (P : Program) (b : Fr) (n : Nat) (G : Goal) (todo : List Item) (env : Env) (ds : List Nat) (w : World) : Prop :=
  todoOk n todo → ∀ (tm : Array Value) (cs : List Frame), tm.size = n → Rep tm env →
    ∃ m', Steps P (lone (b.at tm (ds.map mark) todo) cs w) m' ∧ G cs m'
section
variable {P : Program} {b : Fr} {n : Nat} {G : Goal} {k : List Item} {env : Env} {ds : List Nat} {w : World}
theorem todoOk_cons {x : Item} (h : todoOk n (x :: k)) : itemOk n x = true ∧ todoOk n k :=
  ⟨h x (List.mem_cons_self), fun y hy => h y (List.mem_cons_of_mem _ hy)⟩
theorem todoOk_mk {x : Item} (h : itemOk n x = true) (h' : todoOk n k) : todoOk n (x :: k) := by
  intro y hy
  rcases List.mem_cons.1 hy with rfl | hy
  · exact h
  · exact h' y hy
theorem Run.step1 {x : Item} {k' : List Item} (hok : todoOk n (x :: k) → todoOk n k')
    (hs : ∀ tm cs, step P (lone (b.at tm (ds.map mark) (x :: k)) cs w) = .next (lone (b.at tm (ds.map mark) k') cs w))
    (h : Run P b n G k' env ds w) : Run P b n G (x :: k) env ds w := by
  intro ht tm cs hn hr
  obtain ⟨m', hst, hg⟩ := h (hok ht) tm cs hn hr
  exact ⟨m', .head (hs tm cs) hst, hg⟩
theorem run_skip (h : Run P b n G k env ds w) : Run P b n G (.code .skip :: k) env ds w :=
  Run.step1 (fun h => (todoOk_cons h).2) (fun tm cs => step_lone_go (by simp [stepG, stepG.exec, Fr.at])) h
theorem run_inBlock {id : Nat} (h : Run P b n G k env ds w) : Run P b n G (.inBlock id :: k) env ds w :=
  Run.step1 (fun h => (todoOk_cons h).2) (fun tm cs => step_lone_go (by simp [stepG, stepG.exec, Fr.at])) h
theorem run_seq {x y : Code} (h : Run P b n G (.code x :: .code y :: k) env ds w) : Run P b n G (.code (.seq x y) :: k) env ds w := by
  refine Run.step1 (fun h => ?_) (fun tm cs => step_lone_go (by simp [stepG, stepG.exec, Fr.at])) h
  have h' := todoOk_cons h
  simp only [itemOk, codeOk, Bool.and_eq_true] at h'
  exact todoOk_mk h'.1.1 (todoOk_mk h'.1.2 h'.2)
theorem run_block {id : Nat} {c : Code} (h : Run P b n G (.code c :: .inBlock id :: k) env ds w) : Run P b n G (.code (.block id c) :: k) env ds w := by
  refine Run.step1 (fun h => ?_) (fun tm cs => step_lone_go (by simp [stepG, stepG.exec, Fr.at])) h
  have h' := todoOk_cons h
  simp only [itemOk, codeOk] at h'
  exact todoOk_mk h'.1 (todoOk_mk rfl h'.2)
theorem run_loop_open {c : Code} (h : Run P b n G (.code c :: .inLoop c :: k) env ds w) : Run P b n G (.code (.loop c) :: k) env ds w := by
  refine Run.step1 (fun h => ?_) (fun tm cs => step_lone_go (by simp [stepG, stepG.exec, Fr.at])) h
  have h' := todoOk_cons h
  simp only [itemOk, codeOk] at h'
  exact todoOk_mk h'.1 (todoOk_mk h'.1 h'.2)
theorem run_inLoop {c : Code} (h : Run P b n G (.code c :: .inLoop c :: k) env ds w) : Run P b n G (.inLoop c :: k) env ds w := by
  refine Run.step1 (fun h => ?_) (fun tm cs => step_lone_go (by simp [stepG, stepG.exec, Fr.at])) h
  have h' := todoOk_cons h
  simp only [itemOk] at h'
  exact todoOk_mk h'.1 (todoOk_mk h'.1 h'.2)
theorem todoOk_exitTo {id : Nat} : ∀ {k k' : List Item}, todoOk n k → exitTo id k = some k' → todoOk n k' := by
  intro k
  induction k with
  | nil => intro k' _ h; simp [exitTo] at h
  | cons x k ih =>
    intro k' ht h
    have ht' := todoOk_cons ht
    cases x <;> simp only [exitTo] at h <;> first
      | exact ih ht'.2 h
      | (split at h
         · injection h with h; subst h; exact ht'.2
         · exact ih ht'.2 h)
theorem run_exit {id : Nat} {k' : List Item} (he : exitTo id k = some k') (h : Run P b n G k' env ds w) : Run P b n G (.code (.exit id) :: k) env ds w :=
  Run.step1 (fun h => todoOk_exitTo (todoOk_cons h).2 he) (fun tm cs => step_lone_go (by simp [stepG, stepG.exec, Fr.at, he])) h
theorem run_cond {c : Operand} {x y : Code} {t : Bool} (hc : ev env c = .bool t)
    (h : Run P b n G (.code (bif t then x else y) :: k) env ds w) : Run P b n G (.code (.cond c x y) :: k) env ds w := by
  intro ht tm cs hn hr
  have h' := todoOk_cons ht
  simp only [itemOk, codeOk, Bool.and_eq_true] at h'
  have hev := hr.eval hn b (ds.map mark) (.code (.cond c x y) :: k) h'.1.1.1
  have hok : todoOk n (.code (bif t then x else y) :: k) := by
    cases t
    · exact todoOk_mk h'.1.2 h'.2
    · exact todoOk_mk h'.1.1.2 h'.2
  obtain ⟨m', hst, hg⟩ := h hok tm cs hn hr
  refine ⟨m', .head (step_lone_go ?_) hst, hg⟩
  simp only [Fr.at] at hev
  cases t <;> simp [stepG, stepG.exec, Fr.at, hev, hc]
theorem run_region {id : Nat} {ops : Array Oper} (h : Run P b n G (.inRegion ops (List.range ops.size) :: k) env ds w) :
    Run P b n G (.code (.region id ops false) :: k) env ds w := by
  refine Run.step1 (fun h => ?_) (fun tm cs => step_lone_go (by simp [stepG, stepG.exec, Fr.at])) h
  have h' := todoOk_cons h
  simp only [itemOk, codeOk] at h'
  exact todoOk_mk h'.1 h'.2
theorem run_region_draw {id : Nat} {ops : Array Oper}
    (h : ∀ t, Run P b n G (.inRegion ops (Region.schedule (P.follows .mixedOrders) ops t) :: k) env ds { w with drawn := w.drawn + 1 }) :
    Run P b n G (.code (.region id ops true) :: k) env ds w := by
  intro ht tm cs hn hr
  have h' := todoOk_cons ht
  simp only [itemOk, codeOk] at h'
  obtain ⟨m', hst, hg⟩ := h (w.tape w.drawn (.order b.fn id)) (todoOk_mk h'.1 h'.2) tm cs hn hr
  refine ⟨m', .head (step_lone_go ?_) hst, hg⟩
  simp [stepG, stepG.exec, Fr.at, choose, Sem.run, Question.forced, Question.cut]
theorem run_region_end {ops : Array Oper} (h : Run P b n G k env ds w) : Run P b n G (.inRegion ops [] :: k) env ds w :=
  Run.step1 (fun h => (todoOk_cons h).2) (fun tm cs => step_lone_go (by simp [stepG, stepG.exec, Fr.at])) h
end
def Rounds (P : Program) (l : Nat) (f : FuncId) (tmps : Array Value) (asg body : Code) (w : World) (K : Value → World → Prop) : Prop :=
  ∀ (c : Frame) (cs : List Frame), ∃ v w', K v w' ∧ Steps P (lone (Frame.round l f tmps asg body .normal) (c :: cs) w) (lone (c.finish v) cs w')
def NextWp (P : Program) (K : Value → World → Prop) : Result Next → Prop
  | .ok (.value v) w' => K v w'
  | .ok .skip w' => K undef w'
  | .ok (.enter f args) w' => Calls P f args w' (fun e w'' => ∃ v, e = .returned v ∧ K v w'')
  | .ok (.round l f tmps asg body) w' => Rounds P l f tmps asg body w' K
  | _ => False
theorem NextWp.mono {P : Program} {K K' : Value → World → Prop} (hk : ∀ v w, K v w → K' v w) : ∀ {r : Result Next}, NextWp P K r → NextWp P K' r := by
  intro r h
  cases r with
  | halt => exact h
  | ok x w =>
    cases x <;> first
      | exact hk _ _ h
      | exact Calls.mono h (fun e w' ⟨v, he, hv⟩ => ⟨v, he, hk _ _ hv⟩)
      | (intro c cs; obtain ⟨v, w', h1, h2⟩ := h c cs; exact ⟨v, w', hk _ _ h1, h2⟩)
      | exact h.elim
def OpWp (P : Program) (o : Oper) (env : Env) (w : World) (K : Value → World → Prop) : Prop :=
  NextWp P K ((execOp (ev env) o).run P w)
theorem OpWp.mono {P : Program} {o : Oper} {env : Env} {w : World} {K K' : Value → World → Prop} (h : OpWp P o env w K) (hk : ∀ v w, K v w → K' v w) : OpWp P o env w K' :=
  NextWp.mono hk h
theorem execOp_congr {ρ ρ' : Operand → Value} {o : Oper} (hs : opSup o.op = true) (h : ∀ x ∈ o.op.operands, ρ x = ρ' x) : execOp ρ o = execOp ρ' o := by
  obtain ⟨dst, op, type, pos, after, guard⟩ := o
  cases op <;> simp only [opSup] at hs <;> simp only [execOp]
  case move x => simp [h x (by simp [Op.operands])]
  case assign x => simp [h x (by simp [Op.operands])]
  case pick c a b => simp [h c (by simp [Op.operands]), h a (by simp [Op.operands]), h b (by simp [Op.operands])]
  case box e x => simp [h x (by simp [Op.operands])]
  case build t ps =>
    have : (ps.map fun (i, x) => (i, ρ x)) = ps.map fun (i, x) => (i, ρ' x) := by
      apply Array.map_congr_left
      rintro ⟨i, x⟩ hx
      simp only [Prod.mk.injEq, true_and]
      apply h
      simp only [Op.operands, List.mem_toArray, List.mem_map]
      exact ⟨(i, x), Array.mem_toList_iff.2 hx, rfl⟩
    rw [this]
  case buildSlice t len ps =>
    have : (ps.map fun (i, x) => (i, ρ x)) = ps.map fun (i, x) => (i, ρ' x) := by
      apply Array.map_congr_left
      rintro ⟨i, x⟩ hx
      simp only [Prod.mk.injEq, true_and]
      apply h
      simp only [Op.operands, List.mem_toArray, List.mem_map]
      exact ⟨(i, x), Array.mem_toList_iff.2 hx, rfl⟩
    rw [this]
  case insert t m kk v => simp [h m (by simp [Op.operands]), h kk (by simp [Op.operands]), h v (by simp [Op.operands])]
  case load t x => simp [h x (by simp [Op.operands])]
  case store t x v => simp [h x (by simp [Op.operands]), h v (by simp [Op.operands])]
  case nilCheck x => simp [h x (by simp [Op.operands])]
  case binOp op t x y yt =>
    have hx := h x (by simp [Op.operands])
    have hy := h y (by simp [Op.operands])
    simp [hx, hy]
  case unOp op t x => simp [h x (by simp [Op.operands])]
  case convert s d x => simp [h x (by simp [Op.operands])]
  case sliceToArrayPointer t x => simp [h x (by simp [Op.operands])]
  case makeInterface t x => simp [h x (by simp [Op.operands])]
  case makeFunc f fs cs =>
    have h1 : fs.map ρ = fs.map ρ' := Array.map_congr_left fun x hx => h x (by simp [Op.operands, hx])
    have h2 : cs.map ρ = cs.map ρ' := Array.map_congr_left fun x hx => h x (by simp [Op.operands, hx])
    rw [h1, h2]
  case makeMap t r =>
    cases r with
    | none => rfl
    | some x => simp [h x (by simp [Op.operands])]
  case makeChan t x => simp [h x (by simp [Op.operands])]
  case makeSlice t x y => simp [h x (by simp [Op.operands]), h y (by simp [Op.operands])]
  case slice t x lo hi mx =>
    have h0 := h x (by simp [Op.operands])
    have h1 : lo.map ρ = lo.map ρ' := by cases lo with | none => rfl | some y => simp [h y (by simp [Op.operands])]
    have h2 : hi.map ρ = hi.map ρ' := by cases hi with | none => rfl | some y => simp [h y (by simp [Op.operands])]
    have h3 : mx.map ρ = mx.map ρ' := by cases mx with | none => rfl | some y => simp [h y (by simp [Op.operands])]
    rw [h0, h1, h2, h3]
  case fieldAddr t x f => simp [h x (by simp [Op.operands])]
  case field t x f => simp [h x (by simp [Op.operands])]
  case indexAddr t x y => simp [h x (by simp [Op.operands]), h y (by simp [Op.operands])]
  case index t x y => simp [h x (by simp [Op.operands]), h y (by simp [Op.operands])]
  case lookup t x y ok => simp [h x (by simp [Op.operands]), h y (by simp [Op.operands])]
  case mapUpdate t m kk v => simp [h m (by simp [Op.operands]), h kk (by simp [Op.operands]), h v (by simp [Op.operands])]
  case mapEntry t x y => simp [h x (by simp [Op.operands]), h y (by simp [Op.operands])]
  case entryStore t m kk v => simp [h m (by simp [Op.operands]), h kk (by simp [Op.operands]), h v (by simp [Op.operands])]
  case range t x => simp [h x (by simp [Op.operands])]
  case next x s => simp [h x (by simp [Op.operands])]
  case entry x => simp [h x (by simp [Op.operands])]
  case typeAssert x a b ok => simp [h x (by simp [Op.operands])]
  case extract x i => simp [h x (by simp [Op.operands])]
  case panic x => simp [h x (by simp [Op.operands])]
  case call c =>
    have hargs : c.args.map ρ = c.args.map ρ' := Array.map_congr_left fun x hx => h x (by simp [Op.operands, Call.operands, hx])
    have : resolve ρ c type = resolve ρ' c type := by
      obtain ⟨callee, args, at_⟩ := c
      cases callee with
      | value f => simp only [resolve]; rw [h f (by simp [Op.operands, Call.operands]), hargs]
      | invoke r m => simp only [resolve]; rw [h r (by simp [Op.operands, Call.operands]), hargs]
      | builtin bi => simp only [resolve]; rw [hargs]
    rw [this]
  all_goals first | rfl | (simp at hs; done)
end Go.Eng
/- The engine, part 2: assertions over blocks of memory; regions of operations in every order that their edges allow. -/
set_option linter.unusedVariables false
set_option linter.unusedSimpArgs false
namespace Go.Eng
open Go
abbrev Mem := Nat → Option Obj
def mem (w : World) : Mem := fun r => w.heap[r]?
abbrev SL := Mem → Prop
def Dis (a b : Mem) : Prop := ∀ r, a r = none ∨ b r = none
def cup (a b : Mem) : Mem := fun r => match a r with | some o => some o | none => b r
def emp : SL := fun m => ∀ r, m r = none
def star (A B : SL) : SL := fun m => ∃ a b, Dis a b ∧ m = cup a b ∧ A a ∧ B b
def pobj (r : Nat) (o : Obj) : SL := fun m => m r = some o ∧ ∀ r', r' ≠ r → m r' = none
def pt (r : Nat) (t : TypeId) (cs : List Value) : SL := pobj r (.cells cs.toArray t (0, 0))
def pure' (p : Prop) : SL := fun m => p ∧ emp m
def ex {α : Type} (A : α → SL) : SL := fun m => ∃ x, A x m
def stars : List SL → SL
  | [] => emp
  | A :: L => star A (stars L)
def Sub (a b : Mem) : Prop := ∀ r o, a r = some o → b r = some o
structure Fm where
  sl : SL
  os : Os
  out : Array (Nat × ByteArray)
def Out (w w' : World) : Prop := w'.os = w.os ∧ w'.output = w.output
def HoldsM (L : List SL) (F : SL) (w : World) : Prop := ∃ m, Sub m (mem w) ∧ star (stars L) F m
def Holds (L : List SL) (F : Fm) (w : World) : Prop := (w.os = F.os ∧ w.output = F.out) ∧ HoldsM L F.sl w
def Fm.with (F : Fm) (M : List SL) : Fm := { F with sl := star (stars M) F.sl }
theorem Dis.symm {a b : Mem} (h : Dis a b) : Dis b a := fun r => (h r).symm
theorem cup_comm {a b : Mem} (h : Dis a b) : cup a b = cup b a := by
  funext r
  unfold cup
  rcases h r with h | h <;> rw [h] <;> simp
  · cases b r <;> rfl
  · cases a r <;> rfl
theorem cup_assoc (a b c : Mem) : cup (cup a b) c = cup a (cup b c) := by
  funext r
  unfold cup
  cases a r <;> rfl
theorem cup_none {a b : Mem} {r : Nat} : cup a b r = none ↔ a r = none ∧ b r = none := by
  unfold cup
  cases h : a r <;> simp
theorem Dis.cup_left {a b c : Mem} : Dis (cup a b) c ↔ Dis a c ∧ Dis b c := by
  constructor
  · intro h
    refine ⟨fun r => ?_, fun r => ?_⟩
    · rcases h r with h | h
      · exact .inl (cup_none.1 h).1
      · exact .inr h
    · rcases h r with h | h
      · exact .inl (cup_none.1 h).2
      · exact .inr h
  · rintro ⟨h1, h2⟩ r
    rcases h1 r with h1 | h1
    · rcases h2 r with h2 | h2
      · exact .inl (cup_none.2 ⟨h1, h2⟩)
      · exact .inr h2
    · exact .inr h1
theorem Dis.cup_right {a b c : Mem} : Dis a (cup b c) ↔ Dis a b ∧ Dis a c :=
  ⟨fun h => let ⟨h1, h2⟩ := Dis.cup_left.1 h.symm; ⟨h1.symm, h2.symm⟩, fun ⟨h1, h2⟩ => (Dis.cup_left.2 ⟨h1.symm, h2.symm⟩).symm⟩
theorem star_comm (A B : SL) : star A B = star B A := by
  funext m
  apply propext
  constructor
  · rintro ⟨a, b, hd, rfl, ha, hb⟩; exact ⟨b, a, hd.symm, cup_comm hd, hb, ha⟩
  · rintro ⟨a, b, hd, rfl, ha, hb⟩; exact ⟨b, a, hd.symm, cup_comm hd, hb, ha⟩
theorem star_assoc (A B C : SL) : star (star A B) C = star A (star B C) := by
  funext m
  apply propext
  constructor
  · rintro ⟨ab, c, hd, rfl, ⟨a, b, hd', rfl, ha, hb⟩, hc⟩
    obtain ⟨h1, h2⟩ := Dis.cup_left.1 hd
    exact ⟨a, cup b c, Dis.cup_right.2 ⟨hd', h1⟩, cup_assoc _ _ _, ha, b, c, h2, rfl, hb, hc⟩
  · rintro ⟨a, bc, hd, rfl, ha, b, c, hd', rfl, hb, hc⟩
    obtain ⟨h1, h2⟩ := Dis.cup_right.1 hd
    exact ⟨cup a b, c, Dis.cup_left.2 ⟨h2, hd'⟩, (cup_assoc _ _ _).symm, ⟨a, b, h1, rfl, ha, hb⟩, hc⟩
theorem star_left_comm (A B C : SL) : star A (star B C) = star B (star A C) := by
  rw [← star_assoc, star_comm A B, star_assoc]
theorem emp_star (A : SL) : star emp A = A := by
  funext m
  apply propext
  constructor
  · rintro ⟨a, b, hd, rfl, ha, hb⟩
    have : cup a b = b := by funext r; unfold cup; rw [ha r]
    rw [this]; exact hb
  · intro h
    refine ⟨fun _ => none, m, fun r => .inl rfl, ?_, fun _ => rfl, h⟩
    funext r; rfl
theorem star_emp (A : SL) : star A emp = A := by rw [star_comm, emp_star]
theorem stars_append (L M : List SL) : stars (L ++ M) = star (stars L) (stars M) := by
  induction L with
  | nil => exact (emp_star _).symm
  | cons A L ih => simp only [List.cons_append, stars, ih, star_assoc]
theorem stars_perm {L M : List SL} (h : L.Perm M) : stars L = stars M := by
  induction h with
  | nil => rfl
  | cons x _ ih => simp only [stars, ih]
  | swap x y l => simp only [stars]; exact star_left_comm _ _ _
  | trans _ _ ih1 ih2 => exact ih1.trans ih2
theorem HoldsM.perm {L M : List SL} {F : SL} {w : World} (h : HoldsM L F w) (hp : L.Perm M) : HoldsM M F w := by
  unfold HoldsM at *; rw [← stars_perm hp]; exact h
theorem HoldsM.frame {L M : List SL} {F : SL} {w : World} : HoldsM (L ++ M) F w ↔ HoldsM L (star (stars M) F) w := by
  unfold HoldsM; rw [stars_append, star_assoc]
theorem star_mono_left {A A' B : SL} {m : Mem} (h : star A B m) (ha : ∀ m, A m → A' m) : star A' B m :=
  let ⟨a, b, hd, e, h1, h2⟩ := h; ⟨a, b, hd, e, ha a h1, h2⟩
theorem HoldsM.head {A A' : SL} {L : List SL} {F : SL} {w : World} (h : HoldsM (A :: L) F w) (ha : ∀ m, A m → A' m) : HoldsM (A' :: L) F w := by
  obtain ⟨m, hs, hm⟩ := h
  simp only [stars, star_assoc] at hm ⊢
  refine ⟨m, hs, ?_⟩
  simp only [stars, star_assoc]
  exact star_mono_left hm ha
theorem HoldsM.drop {A : SL} {L : List SL} {F : SL} {w : World} (h : HoldsM (A :: L) F w) : HoldsM L F w := by
  obtain ⟨m, hs, hm⟩ := h
  simp only [stars, star_assoc] at hm
  obtain ⟨a, b, hd, rfl, ha, hb⟩ := hm
  refine ⟨b, fun r o h => hs r o ?_, hb⟩
  unfold cup
  rcases hd r with h' | h'
  · rw [h']; exact h
  · rw [h'] at h; cases h
theorem HoldsM.ex {α : Type} {A : α → SL} {L : List SL} {F : SL} {w : World} : HoldsM (ex A :: L) F w ↔ ∃ x, HoldsM (A x :: L) F w := by
  constructor
  · rintro ⟨m, hs, hm⟩
    simp only [stars, star_assoc] at hm
    obtain ⟨a, b, hd, e, ⟨x, ha⟩, hb⟩ := hm
    refine ⟨x, m, hs, ?_⟩
    simp only [stars, star_assoc]
    exact ⟨a, b, hd, e, ha, hb⟩
  · rintro ⟨x, m, hs, hm⟩
    refine ⟨m, hs, ?_⟩
    simp only [stars, star_assoc] at hm ⊢
    obtain ⟨a, b, hd, e, ha, hb⟩ := hm
    exact ⟨a, b, hd, e, ⟨x, ha⟩, hb⟩
theorem HoldsM.pure {p : Prop} {L : List SL} {F : SL} {w : World} : HoldsM (pure' p :: L) F w ↔ p ∧ HoldsM L F w := by
  have e : ∀ m, star (pure' p) (star (stars L) F) m ↔ p ∧ star (stars L) F m := by
    intro m
    constructor
    · rintro ⟨a, b, hd, rfl, ⟨hp, ha⟩, hb⟩
      have : cup a b = b := by funext r; unfold cup; rw [ha r]
      rw [this]; exact ⟨hp, hb⟩
    · rintro ⟨hp, h⟩
      exact ⟨fun _ => none, m, fun r => .inl rfl, by funext r; rfl, ⟨hp, fun _ => rfl⟩, h⟩
  unfold HoldsM
  simp only [stars, star_assoc]
  constructor
  · rintro ⟨m, hs, hm⟩; exact ⟨((e m).1 hm).1, m, hs, ((e m).1 hm).2⟩
  · rintro ⟨hp, m, hs, hm⟩; exact ⟨m, hs, (e m).2 ⟨hp, hm⟩⟩
theorem HoldsM.star {A B : SL} {L : List SL} {F : SL} {w : World} : HoldsM (star A B :: L) F w ↔ HoldsM (A :: B :: L) F w := by
  unfold HoldsM; simp only [stars, star_assoc]
theorem HoldsM.stars {L M : List SL} {F : SL} {w : World} : HoldsM (Eng.stars M :: L) F w ↔ HoldsM (M ++ L) F w := by
  unfold HoldsM; simp only [Eng.stars, stars_append]
inductive Pick (A : SL) : List SL → List SL → Prop
  | here {L : List SL} : Pick A (A :: L) L
  | there {B : SL} {L M : List SL} (h : Pick A L M) : Pick A (B :: L) (B :: M)
inductive Picks : List SL → List SL → List SL → Prop
  | nil {L : List SL} : Picks [] L L
  | cons {A : SL} {As L M N : List SL} (h : Pick A L M) (hs : Picks As M N) : Picks (A :: As) L N
theorem Pick.perm {A : SL} {L M : List SL} (h : Pick A L M) : L.Perm (A :: M) := by
  induction h with
  | here => exact .refl _
  | there h ih => exact ((ih.cons _)).trans (.swap _ _ _)
theorem Picks.perm {As L M : List SL} (h : Picks As L M) : L.Perm (As ++ M) := by
  induction h with
  | nil => exact .refl _
  | cons h hs ih => exact h.perm.trans (ih.cons _)
theorem HoldsM.obj {r : Nat} {o : Obj} {L : List SL} {F : SL} {w : World} (h : HoldsM (pobj r o :: L) F w) : w.heap[r]? = some o := by
  obtain ⟨m, hs, hm⟩ := h
  simp only [Eng.stars, star_assoc] at hm
  obtain ⟨a, b, hd, rfl, ha, hb⟩ := hm
  exact hs r o (by unfold cup; rw [ha.1])
theorem HoldsM.setObj {r : Nat} {o o' : Obj} {L : List SL} {F : SL} {w w' : World} (h : HoldsM (pobj r o :: L) F w)
    (h1 : w'.heap[r]? = some o') (h2 : ∀ r', r' ≠ r → w'.heap[r']? = w.heap[r']?) : HoldsM (pobj r o' :: L) F w' := by
  obtain ⟨m, hs, hm⟩ := h
  simp only [Eng.stars, star_assoc] at hm
  obtain ⟨a, b, hd, rfl, ha, hb⟩ := hm
  refine ⟨cup (fun x => if x = r then some o' else none) b, ?_, ?_⟩
  · intro x u hx
    show w'.heap[x]? = some u
    unfold cup at hx
    by_cases hxr : x = r
    · subst hxr; simp only [if_true] at hx; rw [h1]; exact hx
    · simp only [if_neg hxr] at hx
      rw [h2 x hxr]
      refine hs x u ?_
      unfold cup
      rw [ha.2 x hxr]; exact hx
  · simp only [Eng.stars, star_assoc]
    refine ⟨_, b, ?_, rfl, ⟨by simp, fun x hx => by simp [hx]⟩, hb⟩
    intro x
    by_cases hxr : x = r
    · subst hxr
      rcases hd x with h' | h'
      · rw [ha.1] at h'; cases h'
      · exact .inr h'
    · exact .inl (by simp [hxr])
theorem HoldsM.alloc {L : List SL} {F : SL} {w w' : World} {o : Obj} (h : HoldsM L F w) (h' : w'.heap = w.heap.push o) : HoldsM (pobj w.heap.size o :: L) F w' := by
  obtain ⟨m, hs, hm⟩ := h
  have hfresh : m w.heap.size = none := by
    cases hx : m w.heap.size with
    | none => rfl
    | some u => have := hs _ _ hx; unfold mem at this; simp at this
  refine ⟨cup (fun x => if x = w.heap.size then some o else none) m, ?_, ?_⟩
  · intro x u hx
    show w'.heap[x]? = some u
    rw [h']
    unfold cup at hx
    by_cases hxr : x = w.heap.size
    · subst hxr; simp only [if_true] at hx; simp; exact Option.some.inj hx
    · simp only [if_neg hxr] at hx
      have h3 : w.heap[x]? = some u := hs x u hx
      rw [Array.getElem?_push, if_neg hxr]
      exact h3
  · simp only [Eng.stars, star_assoc]
    refine ⟨_, m, ?_, rfl, ⟨by simp, fun x hx => by simp [hx]⟩, hm⟩
    intro x
    by_cases hxr : x = w.heap.size
    · subst hxr; exact .inr hfresh
    · exact .inl (by simp [hxr])
theorem HoldsM.same {L : List SL} {F : SL} {w w' : World} (h : HoldsM L F w) (h' : w'.heap = w.heap) : HoldsM L F w' := by
  obtain ⟨m, hs, hm⟩ := h
  exact ⟨m, by unfold mem at *; rw [h']; exact hs, hm⟩
theorem Holds.perm {L M : List SL} {F : Fm} {w : World} (h : Holds L F w) (hp : L.Perm M) : Holds M F w := ⟨h.1, h.2.perm hp⟩
theorem Holds.frame {L M : List SL} {F : Fm} {w : World} : Holds (L ++ M) F w ↔ Holds L (F.with M) w :=
  ⟨fun h => ⟨h.1, HoldsM.frame.1 h.2⟩, fun h => ⟨h.1, HoldsM.frame.2 h.2⟩⟩
theorem Holds.head {A A' : SL} {L : List SL} {F : Fm} {w : World} (h : Holds (A :: L) F w) (ha : ∀ m, A m → A' m) : Holds (A' :: L) F w := ⟨h.1, h.2.head ha⟩
theorem Holds.drop {A : SL} {L : List SL} {F : Fm} {w : World} (h : Holds (A :: L) F w) : Holds L F w := ⟨h.1, h.2.drop⟩
theorem Holds.ex {α : Type} {A : α → SL} {L : List SL} {F : Fm} {w : World} : Holds (ex A :: L) F w ↔ ∃ x, Holds (A x :: L) F w :=
  ⟨fun h => let ⟨x, hx⟩ := HoldsM.ex.1 h.2; ⟨x, h.1, hx⟩, fun ⟨x, h⟩ => ⟨h.1, HoldsM.ex.2 ⟨x, h.2⟩⟩⟩
theorem Holds.pure {p : Prop} {L : List SL} {F : Fm} {w : World} : Holds (pure' p :: L) F w ↔ p ∧ Holds L F w :=
  ⟨fun h => ⟨(HoldsM.pure.1 h.2).1, h.1, (HoldsM.pure.1 h.2).2⟩, fun ⟨hp, h⟩ => ⟨h.1, HoldsM.pure.2 ⟨hp, h.2⟩⟩⟩
theorem Holds.star {A B : SL} {L : List SL} {F : Fm} {w : World} : Holds (star A B :: L) F w ↔ Holds (A :: B :: L) F w :=
  ⟨fun h => ⟨h.1, HoldsM.star.1 h.2⟩, fun h => ⟨h.1, HoldsM.star.2 h.2⟩⟩
theorem Holds.stars {L M : List SL} {F : Fm} {w : World} : Holds (Eng.stars M :: L) F w ↔ Holds (M ++ L) F w :=
  ⟨fun h => ⟨h.1, HoldsM.stars.1 h.2⟩, fun h => ⟨h.1, HoldsM.stars.2 h.2⟩⟩
theorem Holds.obj {r : Nat} {o : Obj} {L : List SL} {F : Fm} {w : World} (h : Holds (pobj r o :: L) F w) : w.heap[r]? = some o := h.2.obj
theorem Holds.setObj {r : Nat} {o o' : Obj} {L : List SL} {F : Fm} {w w' : World} (h : Holds (pobj r o :: L) F w) (h0 : Out w w')
    (h1 : w'.heap[r]? = some o') (h2 : ∀ r', r' ≠ r → w'.heap[r']? = w.heap[r']?) : Holds (pobj r o' :: L) F w' :=
  ⟨⟨h0.1.trans h.1.1, h0.2.trans h.1.2⟩, h.2.setObj h1 h2⟩
theorem Holds.alloc {L : List SL} {F : Fm} {w w' : World} {o : Obj} (h : Holds L F w) (h0 : Out w w') (h' : w'.heap = w.heap.push o) : Holds (pobj w.heap.size o :: L) F w' :=
  ⟨⟨h0.1.trans h.1.1, h0.2.trans h.1.2⟩, h.2.alloc h'⟩
theorem Holds.same {L : List SL} {F : Fm} {w w' : World} (h : Holds L F w) (h0 : Out w w') (h' : w'.heap = w.heap) : Holds L F w' := ⟨⟨h0.1.trans h.1.1, h0.2.trans h.1.2⟩, h.2.same h'⟩
theorem Holds.picks {As L M : List SL} {F : Fm} {w : World} (h : Holds L F w) (hp : Picks As L M) : Holds (As ++ M) F w := h.perm hp.perm
theorem Holds.dropAll {L M : List SL} {F : Fm} {w : World} (h : Holds (L ++ M) F w) : Holds L F w := by
  induction M generalizing L with
  | nil => simpa using h
  | cons A M ih =>
    have h2 : Holds (A :: (L ++ M)) F w := h.perm (by simp)
    exact ih h2.drop
abbrev FGoal := Fm → Goal
def Tr (P : Program) (b : Fr) (n : Nat) (G : FGoal) (todo : List Item) (env : Env) (ds : List Nat) (L : List SL) : Prop :=
  ∀ F w, Holds L F w → Run P b n (G F) todo env ds w
section
variable {P : Program} {b : Fr} {n : Nat} {G : FGoal} {k : List Item} {env : Env} {ds : List Nat} {L : List SL}
theorem Tr.perm {M : List SL} (hp : M.Perm L) (h : Tr P b n G k env ds L) : Tr P b n G k env ds M := fun F w hw => h F w (hw.perm hp)
theorem Tr.picks {As M : List SL} (hp : Picks As L M) (h : Tr P b n G k env ds (As ++ M)) : Tr P b n G k env ds L := fun F w hw => h F w (hw.picks hp)
theorem Tr.pick {A : SL} {M : List SL} (hp : Pick A L M) (h : Tr P b n G k env ds (A :: M)) : Tr P b n G k env ds L := fun F w hw => h F w (hw.perm hp.perm)
theorem Tr.ex {α : Type} {A : α → SL} (h : ∀ x, Tr P b n G k env ds (A x :: L)) : Tr P b n G k env ds (ex A :: L) :=
  fun F w hw => let ⟨x, hx⟩ := Holds.ex.1 hw; h x F w hx
theorem Tr.pure {p : Prop} (h : p → Tr P b n G k env ds L) : Tr P b n G k env ds (pure' p :: L) :=
  fun F w hw => let ⟨hp, hx⟩ := Holds.pure.1 hw; h hp F w hx
theorem Tr.star {A B : SL} (h : Tr P b n G k env ds (A :: B :: L)) : Tr P b n G k env ds (star A B :: L) :=
  fun F w hw => h F w (Holds.star.1 hw)
theorem Tr.stars {M : List SL} (h : Tr P b n G k env ds (M ++ L)) : Tr P b n G k env ds (Eng.stars M :: L) :=
  fun F w hw => h F w (Holds.stars.1 hw)
theorem Tr.head {A A' : SL} (ha : ∀ m, A m → A' m) (h : Tr P b n G k env ds (A' :: L)) : Tr P b n G k env ds (A :: L) :=
  fun F w hw => h F w (hw.head ha)
theorem Tr.drop {A : SL} (h : Tr P b n G k env ds L) : Tr P b n G k env ds (A :: L) := fun F w hw => h F w hw.drop
theorem tr_skip (h : Tr P b n G k env ds L) : Tr P b n G (.code .skip :: k) env ds L := fun F w hw => run_skip (h F w hw)
theorem tr_inBlock {id : Nat} (h : Tr P b n G k env ds L) : Tr P b n G (.inBlock id :: k) env ds L := fun F w hw => run_inBlock (h F w hw)
theorem tr_seq {x y : Code} (h : Tr P b n G (.code x :: .code y :: k) env ds L) : Tr P b n G (.code (.seq x y) :: k) env ds L := fun F w hw => run_seq (h F w hw)
theorem tr_block {id : Nat} {c : Code} (h : Tr P b n G (.code c :: .inBlock id :: k) env ds L) : Tr P b n G (.code (.block id c) :: k) env ds L := fun F w hw => run_block (h F w hw)
theorem tr_exit {id : Nat} {k' : List Item} (he : exitTo id k = some k') (h : Tr P b n G k' env ds L) : Tr P b n G (.code (.exit id) :: k) env ds L := fun F w hw => run_exit he (h F w hw)
theorem tr_cond {c : Operand} {x y : Code} {t : Bool} (hc : ev env c = .bool t) (h1 : t = true → Tr P b n G (.code x :: k) env ds L) (h2 : t = false → Tr P b n G (.code y :: k) env ds L) :
    Tr P b n G (.code (.cond c x y) :: k) env ds L := fun F w hw => run_cond hc (by cases t; exact h2 rfl F w hw; exact h1 rfl F w hw)
theorem tr_cond_p {c : Operand} {x y : Code} {p : Prop} [Decidable p] (hc : ev env c = .bool (decide p)) (h1 : p → Tr P b n G (.code x :: k) env ds L) (h2 : ¬ p → Tr P b n G (.code y :: k) env ds L) :
    Tr P b n G (.code (.cond c x y) :: k) env ds L := tr_cond hc (fun h => h1 (of_decide_eq_true h)) (fun h => h2 (of_decide_eq_false h))
theorem tr_cond_t {c : Operand} {x y : Code} {t : Bool} (hc : ev env c = .bool t) (ht : t = true) (h : Tr P b n G (.code x :: k) env ds L) : Tr P b n G (.code (.cond c x y) :: k) env ds L :=
  tr_cond hc (fun _ => h) (fun h' => by rw [ht] at h'; cases h')
theorem tr_cond_f {c : Operand} {x y : Code} {t : Bool} (hc : ev env c = .bool t) (ht : t = false) (h : Tr P b n G (.code y :: k) env ds L) : Tr P b n G (.code (.cond c x y) :: k) env ds L :=
  tr_cond hc (fun h' => by rw [ht] at h'; cases h') (fun _ => h)
theorem tr_loop {α : Type} {c : Code} (μ : α → Nat) (E : α → Env) (D : α → List Nat) (I : α → List SL) (x₀ : α) (h0e : env = E x₀) (h0d : ds = D x₀) (h0 : ∀ F w, Holds L F w → Holds (I x₀) F w)
    (round : ∀ x, (∀ y, μ y < μ x → Tr P b n G (.inLoop c :: k) (E y) (D y) (I y)) → Tr P b n G (.code c :: .inLoop c :: k) (E x) (D x) (I x)) :
    Tr P b n G (.code (.loop c) :: k) env ds L := by
  subst h0e; subst h0d
  have key : ∀ m x, μ x = m → Tr P b n G (.code c :: .inLoop c :: k) (E x) (D x) (I x) := by
    intro m
    induction m using Nat.strongRecOn with
    | _ m ih =>
      intro x hx
      refine round x fun y hy F w hw => ?_
      exact run_inLoop (ih (μ y) (hx ▸ hy) y rfl F w hw)
  exact fun F w hw => run_loop_open (key _ x₀ rfl F w (h0 F w hw))
end
end Go.Eng
/- The engine, part 3: regions. -/
set_option linter.unusedVariables false
set_option linter.unusedSimpArgs false
namespace Go.Eng
open Go
def dstAt (ops : Array Oper) (j : Nat) : Option Nat := (ops[j]?).bind (·.dst)
def guardOk (ops : Array Oper) (env : Env) (o : Oper) : Bool :=
  match o.guard with
  | none => true
  | some (j, want) =>
    match dstAt ops j with
    | some d => match env d with
      | .bool b => b == want
      | _ => false
    | none => false
def Grow (w w' : World) : Prop := Out w w' ∧ ∀ (r : Nat) (o : Obj), w.heap[r]? = some o → w'.heap[r]? = some o
theorem Grow.refl (w : World) : Grow w w := ⟨⟨rfl, rfl⟩, fun _ _ h => h⟩
theorem Grow.trans {w w' w'' : World} (h : Grow w w') (h' : Grow w' w'') : Grow w w'' := ⟨⟨h'.1.1.trans h.1.1, h'.1.2.trans h.1.2⟩, fun r o ho => h'.2 r o (h.2 r o ho)⟩
def quietOp : Op → Bool
  | .store .. | .mapUpdate .. | .mapEntry .. | .entryStore .. | .insert .. => false
  | .convert .. => true
  | .call { callee := .builtin .len, .. } | .call { callee := .builtin .min, .. } | .call { callee := .builtin .max, .. } => true
  | .call _ => false
  | .next .. | .range .. => false
  | _ => true
def StepOp (P : Program) (ops : Array Oper) (i : Nat) (env : Env) (w : World) (K : Env → World → Prop) : Prop :=
  match ops[i]? with
  | none => False
  | some o => if guardOk ops env o = true then OpWp P o env w (fun v w' => (quietOp o.op = true → Grow w w') ∧ K (updO env o.dst v) w') else K (updO env o.dst undef) w
theorem StepOp.mono {P : Program} {ops : Array Oper} {i : Nat} {env : Env} {w : World} {K K' : Env → World → Prop} (h : StepOp P ops i env w K) (hk : ∀ e w, K e w → K' e w) :
    StepOp P ops i env w K' := by
  unfold StepOp at *
  cases ho : ops[i]? with
  | none => rw [ho] at h; exact h.elim
  | some o =>
    rw [ho] at h
    dsimp only at h ⊢
    split
    · rename_i hg; rw [if_pos hg] at h; exact h.mono fun v w hv => ⟨hv.1, hk _ _ hv.2⟩
    · rename_i hg; rw [if_neg hg] at h; exact hk _ _ h
def SeqOps (P : Program) (ops : Array Oper) : List Nat → Env → World → (Env → World → Prop) → Prop
  | [], env, w, K => K env w
  | i :: l, env, w, K => StepOp P ops i env w (fun env' w' => SeqOps P ops l env' w' K)
section
variable {P : Program} {b : Fr} {n : Nat} {G : Goal} {k : List Item} {ds : List Nat}
theorem finish_at (tm : Array Value) (dd : List Deferred) (ops : Array Oper) (i : Nat) (l : List Nat) (v : Value) :
    (b.at tm dd (.inRegion ops (i :: l) :: k)).finish v =
      b.at (match (ops[i]?).bind (·.dst) with | some d => tm.setIfInBounds d v | none => tm) dd (.inRegion ops l :: k) := by
  cases h : (ops[i]?).bind (·.dst) <;> simp [Frame.finish, Fr.at, h]
theorem yielded_eq {ops : Array Oper} {tm : Array Value} {env : Env} (hr : Rep tm env) (hok : ops.all (opOk tm.size) = true) (o : Oper) :
    Region.wanted o (yielded ops tm) = guardOk ops env o := by
  unfold Region.wanted guardOk
  cases hg : o.guard with
  | none => rfl
  | some jw =>
    obtain ⟨j, want⟩ := jw
    dsimp only
    unfold yielded dstAt
    cases hj : ops[j]? with
    | none => simp
    | some oj =>
      cases hd : oj.dst with
      | none => simp [hd]
      | some d =>
        have h1 : opOk tm.size oj = true := by
          obtain ⟨hlt, rfl⟩ := Array.getElem?_eq_some_iff.1 hj
          exact Array.all_eq_true.1 hok j hlt
        have hdlt : d < tm.size := by
          unfold opOk at h1
          simp only [Bool.and_eq_true, hd, Option.all_some] at h1
          exact Nat.blt_eq ▸ h1.1.2
        have h2 := hr d hdlt
        simp only [Option.bind_some, hd, Array.getElem?_eq_getElem hdlt]
        have h3 : tm[d] = env d := by rw [← h2]; simp [Array.getD, hdlt]
        rw [h3]
        cases env d <;> simp
theorem run_ops {ops : Array Oper} {K : Env → World → Prop} (hK : ∀ env w, K env w → Run P b n G k env ds w) :
    ∀ (l : List Nat) (env : Env) (w : World), SeqOps P ops l env w K → Run P b n G (.inRegion ops l :: k) env ds w := by
  intro l
  induction l with
  | nil => intro env w h; exact run_region_end (hK _ _ h)
  | cons i l ih =>
    intro env w h hok tm cs hn hr
    have hops : ops.all (opOk tm.size) = true := by
      have := (todoOk_cons hok).1
      simp only [itemOk] at this
      rw [hn]; exact this
    have hok' : todoOk n (.inRegion ops l :: k) := todoOk_mk (by simp only [itemOk]; rw [← hn]; exact hops) (todoOk_cons hok).2
    simp only [SeqOps, StepOp] at h
    cases ho : ops[i]? with
    | none => rw [ho] at h; exact h.elim
    | some o =>
      rw [ho] at h
      dsimp only at h
      have hw := yielded_eq hr hops o
      have hoo : opOk tm.size o = true := by
        obtain ⟨hlt, rfl⟩ := Array.getElem?_eq_some_iff.1 ho
        exact Array.all_eq_true.1 hops i hlt
      have hfin : ∀ v, (b.at tm (ds.map mark) (.inRegion ops (i :: l) :: k)).finish v =
          b.at (match o.dst with | some d => tm.setIfInBounds d v | none => tm) (ds.map mark) (.inRegion ops l :: k) := by
        intro v; rw [finish_at, ho]; rfl
      have hsz : ∀ v, (match o.dst with | some d => tm.setIfInBounds d v | none => tm).size = n := by
        intro v; cases o.dst <;> simp [hn]
      by_cases hg : guardOk ops env o = true
      · rw [if_pos hg] at h
        rw [hg] at hw
        have hev : ∀ x ∈ o.op.operands, (b.at tm (ds.map mark) (.inRegion ops (i :: l) :: k)).eval x = ev env x := by
          intro x hx
          unfold opOk at hoo
          simp only [Bool.and_eq_true] at hoo
          obtain ⟨m, hm, rfl⟩ := Array.getElem_of_mem hx
          exact hr.eval rfl b _ _ (Array.all_eq_true.1 hoo.2 m hm)
        have hsup : opSup o.op = true := by
          unfold opOk at hoo
          simp only [Bool.and_eq_true] at hoo
          exact hoo.1.1
        have hexec := execOp_congr hsup hev
        have hstep : stepG P true { frame := b.at tm (ds.map mark) (.inRegion ops (i :: l) :: k), callers := cs, status := .running, dying := none } w =
            stepG.apply P true (b.at tm (ds.map mark) (.inRegion ops (i :: l) :: k)) cs none (execOp (ev env) o) w := by
          rw [← hexec]
          have hdef : ∀ c, o.op ≠ .defer c := by
            intro c hc; rw [hc] at hsup; simp [opSup] at hsup
          cases hro : b.ro with
          | none => simp [stepG, stepG.exec, stepG.oper, Frame.oper?, Fr.at, ho, hw, hro]
          | some l0 =>
            simp only [stepG, stepG.exec, stepG.oper, Frame.oper?, Fr.at, ho, Option.map_some, hw, Option.getD_some, if_true, hro]
            split
            · rename_i hc; exact absurd hc (hdef _)
            · rfl
        unfold OpWp at h
        cases hrun : (execOp (ev env) o).run P w with
        | halt hh w' => rw [hrun] at h; exact h.elim
        | ok x w' =>
          rw [hrun] at h
          cases x <;> (try exact h.elim)
          case value v =>
            obtain ⟨m', hst, hgo⟩ := ih _ _ h.2 hok' _ cs (hsz v) (hr.updO o.dst v)
            refine ⟨m', .head (step_lone_go ?_) hst, hgo⟩
            rw [hstep, ← hfin]
            simp [stepG.apply, hrun]
          case skip =>
            obtain ⟨m', hst, hgo⟩ := ih _ _ h.2 hok' _ cs (hsz undef) (hr.updO o.dst undef)
            refine ⟨m', .head (step_lone_go ?_) hst, hgo⟩
            rw [hstep, ← hfin]
            simp [stepG.apply, hrun]
          case enter f args =>
            obtain ⟨e, w'', fr, ⟨v, rfl, hv⟩, hsteps, _, hleave⟩ := h (b.at tm (ds.map mark) (.inRegion ops (i :: l) :: k) :: cs)
            have henter : step P (lone (b.at tm (ds.map mark) (.inRegion ops (i :: l) :: k)) cs w) =
                .next (lone (Frame.enter P f args .normal) (b.at tm (ds.map mark) (.inRegion ops (i :: l) :: k) :: cs) w') :=
              step_lone_go (by rw [hstep]; simp [stepG.apply, hrun, Fr.at])
            obtain ⟨m', hst, hgo⟩ := ih _ _ hv.2 hok' _ cs (hsz v) (hr.updO o.dst v)
            refine ⟨m', .head henter (Steps.trans hsteps (.head (step_leave_returned hleave) ?_)), hgo⟩
            rw [hfin]; exact hst
          case round l0 f tmps asg body =>
            obtain ⟨v, w'', hv, hsteps⟩ := h (b.at tm (ds.map mark) (.inRegion ops (i :: l) :: k)) cs
            have henter : step P (lone (b.at tm (ds.map mark) (.inRegion ops (i :: l) :: k)) cs w) =
                .next (lone (Frame.round l0 f tmps asg body .normal) (b.at tm (ds.map mark) (.inRegion ops (i :: l) :: k) :: cs) w') :=
              step_lone_go (by rw [hstep]; simp [stepG.apply, hrun, Fr.at])
            obtain ⟨m', hst, hgo⟩ := ih _ _ hv.2 hok' _ cs (hsz v) (hr.updO o.dst v)
            refine ⟨m', .head henter (Steps.trans hsteps ?_), hgo⟩
            rw [hfin]; exact hst
      · rw [if_neg hg] at h
        have hg' : guardOk ops env o = false := by simpa using hg
        rw [hg'] at hw
        obtain ⟨m', hst, hgo⟩ := ih _ _ h hok' _ cs (hsz undef) (hr.updO o.dst undef)
        refine ⟨m', .head (step_lone_go ?_) hst, hgo⟩
        rw [← hfin]
        simp [stepG, stepG.exec, Fr.at, ho, hw]
end
def without (rem : List Nat) (i : Nat) : List Nat := rem.filter (fun j => !(j == i))
def enabled (ops : Array Oper) (rem : List Nat) (i : Nat) : Bool :=
  match ops[i]? with
  | none => false
  | some o => o.after.all fun e => !Region.binds .any e || !rem.contains e.on
inductive Sch (ops : Array Oper) : List Nat → List Nat → Prop
  | nil : Sch ops [] []
  | cons {rem : List Nat} {i : Nat} {l : List Nat} (hi : i ∈ rem) (he : enabled ops rem i = true) (h : Sch ops (without rem i) l) : Sch ops rem (i :: l)
def AnyD (P : Program) (ops : Array Oper) (rem : List Nat) (env : Env) (w : World) (K : Env → World → Prop) : Prop :=
  ∀ l, Sch ops rem l → SeqOps P ops l env w K
def edgesOk (ops : Array Oper) : Bool :=
  (List.range ops.size).all fun i => match ops[i]? with
    | none => true
    | some o => o.after.all fun e => !Region.binds .any e || Nat.blt e.on i
theorem mem_without {rem : List Nat} {i j : Nat} : j ∈ without rem i ↔ j ∈ rem ∧ j ≠ i := by
  simp [without]
theorem AnyD.nil {P : Program} {ops : Array Oper} {env : Env} {w : World} {K : Env → World → Prop} (h : K env w) : AnyD P ops [] env w K := by
  intro l hl
  cases hl with
  | nil => exact h
  | cons hi => cases hi
theorem AnyD.branch {P : Program} {ops : Array Oper} {rem : List Nat} {env : Env} {w : World} {K : Env → World → Prop} (hne : rem ≠ [])
    (h : ∀ i ∈ rem, enabled ops rem i = true → StepOp P ops i env w (fun env' w' => AnyD P ops (without rem i) env' w' K)) : AnyD P ops rem env w K := by
  intro l hl
  cases hl with
  | nil => exact absurd rfl hne
  | cons hi he hl => exact (h _ hi he).mono fun e w hk => hk _ hl
def readsOf (ops : Array Oper) (o : Oper) : List Nat :=
  (o.op.operands.toList.filterMap fun x => match x with | .tmp t => some t | _ => none) ++
    (match o.guard with | some (j, _) => (dstAt ops j).toList | none => [])
def apartOps (ops : Array Oper) (oi oj : Oper) : Bool :=
  (match oi.dst with | some d => !(readsOf ops oj).contains d && !(oj.dst == some d) | none => true) &&
  (match oj.dst with | some d => !(readsOf ops oi).contains d | none => true)
def indep (ops : Array Oper) (quiet : Bool) (i j : Nat) : Bool :=
  match ops[i]?, ops[j]? with
  | some oi, some oj => apartOps ops oi oj && opSup oj.op && (!quiet || quietOp oj.op)
  | _, _ => false
def waitsOn (ops : Array Oper) (j : Nat) (p : Nat → Bool) : Bool :=
  match ops[j]? with
  | none => false
  | some o => o.after.any fun e => Region.binds .any e && p e.on
def blocked (ops : Array Oper) (i : Nat) (rem : List Nat) : List Nat :=
  rem.foldl (fun B j => if !(j == i) && waitsOn ops j (fun e => e == i || B.contains e) then j :: B else B) []
def movable (ops : Array Oper) (quiet : Bool) (B : List Nat) (i : Nat) (rem : List Nat) : Bool :=
  rem.all fun j => j == i || (if B.contains j then waitsOn ops j (fun e => e == i || (B.contains e && rem.contains e)) else indep ops quiet i j)
theorem StepOp.quiet {P : Program} {ops : Array Oper} {i : Nat} {o : Oper} (ho : ops[i]? = some o) (hq : quietOp o.op = true) {env : Env} {w : World} {K : Env → World → Prop}
    (h : StepOp P ops i env w K) : StepOp P ops i env w (fun e w' => Grow w w' ∧ K e w') := by
  unfold StepOp at *
  rw [ho] at h ⊢
  dsimp only at h ⊢
  split
  · rename_i hg
    rw [if_pos hg] at h
    exact h.mono fun v w' hv => ⟨hv.1, hv.1 hq, hv.2⟩
  · rename_i hg; rw [if_neg hg] at h; exact ⟨.refl _, h⟩
theorem updO_comm {env : Env} {d d' : Option Nat} {v v' : Value} (h : ∀ x, d = some x → d' ≠ some x) : updO (updO env d v) d' v' = updO (updO env d' v') d v := by
  cases d with
  | none => rfl
  | some x =>
    cases d' with
    | none => rfl
    | some y =>
      have hne : x ≠ y := fun e => h x rfl (by rw [e])
      funext i
      simp only [updO, upd]
      by_cases hx : x = i
      · subst hx
        have h1 : Nat.beq y x = false := by
          cases hb : Nat.beq y x
          · rfl
          · exact absurd (Nat.eq_of_beq_eq_true hb).symm hne
        rw [h1]; simp
      · have h1 : Nat.beq x i = false := by
          cases hb : Nat.beq x i
          · rfl
          · exact absurd (Nat.eq_of_beq_eq_true hb) hx
        rw [h1]; simp
theorem updO_at {env : Env} {d : Option Nat} {v : Value} {t : Nat} (h : d ≠ some t) : updO env d v t = env t := by
  cases d with
  | none => rfl
  | some x =>
    simp only [updO, upd]
    have h1 : Nat.beq x t = false := by
      cases hb : Nat.beq x t
      · rfl
      · exact absurd (by rw [Nat.eq_of_beq_eq_true hb]) h
    rw [h1]; rfl
theorem mem_reads {ops : Array Oper} {o : Oper} {t : Nat} (h : Operand.tmp t ∈ o.op.operands) : t ∈ readsOf ops o := by
  unfold readsOf
  refine List.mem_append_left _ ?_
  rw [List.mem_filterMap]
  exact ⟨_, Array.mem_toList_iff.2 h, rfl⟩
theorem guard_congr {ops : Array Oper} {env env' : Env} {o : Oper} (h : ∀ t ∈ readsOf ops o, env t = env' t) : guardOk ops env o = guardOk ops env' o := by
  unfold guardOk
  cases hg : o.guard with
  | none => rfl
  | some jw =>
    obtain ⟨j, want⟩ := jw
    dsimp only
    cases hd : dstAt ops j with
    | none => rfl
    | some d =>
      dsimp only
      rw [h d (by unfold readsOf; rw [hg]; simp [hd])]
theorem exec_congr {ops : Array Oper} {env env' : Env} {o : Oper} (hs : opSup o.op = true) (h : ∀ t ∈ readsOf ops o, env t = env' t) : execOp (ev env) o = execOp (ev env') o := by
  refine execOp_congr hs fun x hx => ?_
  cases x with
  | tmp t => exact h t (mem_reads hx)
  | const v => rfl
  | global g => rfl
  | func f => rfl
theorem StepOp.apart {P : Program} {ops : Array Oper} {i j : Nat} {oi oj : Oper} (hi : ops[i]? = some oi) (hj : ops[j]? = some oj) (ha : apartOps ops oi oj = true) (hs : opSup oj.op = true)
    {env : Env} {v : Value} {w : World} {K : Env → World → Prop} (h : StepOp P ops j (updO env oi.dst v) w K) :
    StepOp P ops j env w (fun e w' => (∀ t ∈ readsOf ops oi, e t = env t) ∧ K (updO e oi.dst v) w') := by
  unfold apartOps at ha
  simp only [Bool.and_eq_true] at ha
  obtain ⟨h1, h2⟩ := ha
  have hd : ∀ x, oi.dst = some x → oj.dst ≠ some x := by
    intro x hx
    rw [hx] at h1
    simp at h1
    exact h1.2
  have hr : ∀ t ∈ readsOf ops oj, updO env oi.dst v t = env t := by
    intro t ht
    refine updO_at fun hx => ?_
    rw [hx] at h1
    simp at h1
    exact h1.1 ht
  have hr2 : ∀ u, ∀ t ∈ readsOf ops oi, updO env oj.dst u t = env t := by
    intro u t ht
    refine updO_at fun hx => ?_
    rw [hx] at h2
    simp at h2
    exact h2 ht
  unfold StepOp at *
  rw [hj] at h ⊢
  dsimp only at h ⊢
  rw [guard_congr hr] at h
  unfold OpWp at *
  rw [exec_congr hs hr] at h
  split
  · rename_i hg
    rw [if_pos hg] at h
    refine NextWp.mono (fun u w' hk => ?_) h
    refine ⟨hk.1, hr2 u, ?_⟩
    rw [← updO_comm hd]; exact hk.2
  · rename_i hg
    rw [if_neg hg] at h
    refine ⟨hr2 _, ?_⟩
    rw [← updO_comm hd]; exact h
theorem swap_ops {P : Program} {ops : Array Oper} {i : Nat} {oi : Oper} (hi : ops[i]? = some oi) (quiet : Bool) {v : Value} {K : Env → World → Prop} {l2 : List Nat} {w : World} {env : Env}
    (hstep : ∀ env' w', (∀ t ∈ readsOf ops oi, env' t = env t) → (quiet = true → Grow w w') → ∀ K', K' (updO env' oi.dst v) w' → StepOp P ops i env' w' K') :
    ∀ (l1 : List Nat) (env' : Env) (w' : World), (∀ t ∈ readsOf ops oi, env' t = env t) → (quiet = true → Grow w w') → (∀ j ∈ l1, indep ops quiet i j = true) →
      SeqOps P ops (l1 ++ l2) (updO env' oi.dst v) w' K → SeqOps P ops (l1 ++ i :: l2) env' w' K := by
  intro l1
  induction l1 with
  | nil => intro env' w' he hw _ h; exact hstep env' w' he hw _ h
  | cons j l1 ih =>
    intro env' w' he hw hind h
    simp only [List.cons_append, SeqOps] at h ⊢
    have hij := hind j (List.mem_cons_self)
    unfold indep at hij
    rw [hi] at hij
    cases hj : ops[j]? with
    | none => rw [hj] at hij; simp at hij
    | some oj =>
      rw [hj] at hij
      simp only [Bool.and_eq_true] at hij
      obtain ⟨⟨ha, hs⟩, hq⟩ := hij
      have h2 := StepOp.apart hi hj ha hs h
      cases hquiet : quiet with
      | false =>
        exact h2.mono fun e w2 ⟨h3, h4⟩ => ih e w2 (fun t ht => (h3 t ht).trans (he t ht)) (by rw [hquiet]; intro hc; cases hc) (fun x hx => hind x (List.mem_cons_of_mem _ hx)) h4
      | true =>
        rw [hquiet] at hq
        have hq' : quietOp oj.op = true := by simpa using hq
        refine (h2.quiet hj hq').mono ?_
        rintro e w2 ⟨hw2, h3, h4⟩
        exact ih e w2 (fun t ht => (h3 t ht).trans (he t ht)) (fun hc => (hw hc).trans hw2) (fun x hx => hind x (List.mem_cons_of_mem _ hx)) h4
theorem without_comm {rem : List Nat} {i j : Nat} : without (without rem i) j = without (without rem j) i := by
  simp only [without, List.filter_filter, Bool.and_comm]
theorem enabled_without {ops : Array Oper} {rem : List Nat} {i j : Nat} (h : enabled ops rem j = true) : enabled ops (without rem i) j = true := by
  unfold enabled at *
  cases ho : ops[j]? with
  | none => rw [ho] at h; cases h
  | some o =>
    rw [ho] at h
    dsimp only at h ⊢
    rw [Array.all_eq_true] at h ⊢
    intro m hm
    have := h m hm
    simp only [Bool.or_eq_true, Bool.not_eq_true', List.contains_eq_mem, decide_eq_false_iff_not] at this ⊢
    rcases this with h | h
    · exact .inl h
    · exact .inr fun hc => h (mem_without.1 hc).1
theorem not_waits {ops : Array Oper} {rem : List Nat} {j : Nat} {p : Nat → Bool} (h : enabled ops rem j = true) (hp : ∀ e, p e = true → e ∈ rem) : waitsOn ops j p = false := by
  unfold enabled at h
  unfold waitsOn
  cases ho : ops[j]? with
  | none => rfl
  | some o =>
    rw [ho] at h
    dsimp only at h ⊢
    rw [Array.all_eq_true] at h
    rw [Array.any_eq_false]
    intro m hm hc
    simp only [Bool.and_eq_true] at hc
    have := h m hm
    simp only [Bool.or_eq_true, Bool.not_eq_true', List.contains_eq_mem, decide_eq_false_iff_not] at this
    rcases this with h1 | h1
    · rw [hc.1] at h1; cases h1
    · exact h1 (hp _ hc.2)
theorem waits_mono {ops : Array Oper} {j : Nat} {p q : Nat → Bool} (h : waitsOn ops j p = true) (hp : ∀ e, p e = true → q e = true) : waitsOn ops j q = true := by
  unfold waitsOn at *
  cases ho : ops[j]? with
  | none => rw [ho] at h; cases h
  | some o =>
    rw [ho] at h
    dsimp only at h ⊢
    rw [Array.any_eq_true] at h ⊢
    obtain ⟨m, hm, h⟩ := h
    simp only [Bool.and_eq_true] at h ⊢
    exact ⟨m, hm, h.1, hp _ h.2⟩
theorem sch_split {ops : Array Oper} {quiet : Bool} {B : List Nat} {i : Nat} (hBi : B.contains i = false) {rem l : List Nat} (hs : Sch ops rem l) :
    i ∈ rem → movable ops quiet B i rem = true → ∃ l1 l2, l = l1 ++ i :: l2 ∧ (∀ j ∈ l1, indep ops quiet i j = true) ∧ Sch ops (without rem i) (l1 ++ l2) := by
  induction hs with
  | nil => intro h; cases h
  | @cons rem j l hj he hl ih =>
    intro hi hm
    by_cases hji : j = i
    · subst hji
      exact ⟨[], l, rfl, by simp, hl⟩
    · have hm0 := hm
      unfold movable at hm
      rw [List.all_eq_true] at hm
      have hmj := hm j hj
      have hji' : (j == i) = false := by simpa using hji
      rw [hji', Bool.false_or] at hmj
      by_cases hB : B.contains j = true
      · rw [if_pos hB] at hmj
        rw [not_waits he] at hmj
        · cases hmj
        · intro e h
          simp only [Bool.or_eq_true, beq_iff_eq, Bool.and_eq_true, List.contains_eq_mem, decide_eq_true_eq] at h
          rcases h with rfl | h
          · exact hi
          · exact h.2
      · rw [if_neg hB] at hmj
        have hi' : i ∈ without rem j := mem_without.2 ⟨hi, fun e => hji e.symm⟩
        have hm' : movable ops quiet B i (without rem j) = true := by
          unfold movable
          rw [List.all_eq_true]
          intro x hx
          obtain ⟨hx1, hx2⟩ := mem_without.1 hx
          have hmx := hm x hx1
          simp only [Bool.or_eq_true] at hmx ⊢
          rcases hmx with h | h
          · exact .inl h
          · refine .inr ?_
            split
            · rename_i hBx
              rw [if_pos hBx] at h
              refine waits_mono h fun e h => ?_
              simp only [Bool.or_eq_true, beq_iff_eq, Bool.and_eq_true, List.contains_eq_mem, decide_eq_true_eq] at h ⊢
              rcases h with h | h
              · exact .inl h
              · refine .inr ⟨h.1, mem_without.2 ⟨h.2, ?_⟩⟩
                rintro rfl
                exact hB (by simpa using h.1)
            · rename_i hBx
              rw [if_neg hBx] at h
              exact h
        obtain ⟨l1, l2, rfl, h1, h2⟩ := ih hi' hm'
        refine ⟨j :: l1, l2, rfl, ?_, ?_⟩
        · intro x hx
          rcases List.mem_cons.1 hx with rfl | hx
          · exact hmj
          · exact h1 x hx
        · refine Sch.cons (mem_without.2 ⟨hj, hji⟩) (enabled_without he) ?_
          rw [without_comm]; exact h2
theorem AnyD.mover {P : Program} {ops : Array Oper} {rem : List Nat} {env : Env} {w : World} {K : Env → World → Prop} (i : Nat) {oi : Oper} (hi : ops[i]? = some oi) (quiet : Bool) (B : List Nat)
    (hmem : rem.contains i = true) (hBi : B.contains i = false) (hm : movable ops quiet B i rem = true) {v : Value}
    (hstep : ∀ env' w', (∀ t ∈ readsOf ops oi, env' t = env t) → (quiet = true → Grow w w') → ∀ K', K' (updO env' oi.dst v) w' → StepOp P ops i env' w' K')
    (h : AnyD P ops (without rem i) (updO env oi.dst v) w K) : AnyD P ops rem env w K := by
  intro l hl
  obtain ⟨l1, l2, rfl, h1, h2⟩ := sch_split hBi hl (by simpa using hmem) hm
  exact swap_ops hi quiet hstep l1 env w (fun _ _ => rfl) (fun _ => .refl _) h1 (h _ h2)
def left (ops : Array Oper) (listed : Array Bool) : List Nat := (List.range ops.size).filter fun i => !listed.getD i true
theorem mem_left {ops : Array Oper} {listed : Array Bool} {i : Nat} : i ∈ left ops listed ↔ i < ops.size ∧ listed.getD i true = false := by
  simp [left]
theorem sch_linearise {ops : Array Oper} (he : edgesOk ops = true) : ∀ (fuel t : Nat) (listed : Array Bool) (acc : List Nat), listed.size = ops.size → (left ops listed).length ≤ fuel →
    ∃ l, Region.linearise.go .any ops fuel t listed acc = acc.reverse ++ l ∧ Sch ops (left ops listed) l := by
  intro fuel
  induction fuel with
  | zero =>
    intro t listed acc hsz hle
    have : left ops listed = [] := List.eq_nil_of_length_eq_zero (by omega)
    exact ⟨[], by simp [Region.linearise.go], by rw [this]; exact .nil⟩
  | succ fuel ih =>
    intro t listed acc hsz hle
    simp only [Region.linearise.go]
    generalize hrs : ((List.range ops.size).filter fun i =>
        !listed.getD i true && ((ops[i]?).map (·.after.all fun e => !Region.binds .any e || listed.getD e.on false)).getD false) = rs
    have hmem : ∀ i, i ∈ rs ↔ i ∈ left ops listed ∧ ((ops[i]?).map (·.after.all fun e => !Region.binds .any e || listed.getD e.on false)).getD false = true := by
      intro i
      rw [← hrs, List.mem_filter, mem_left]
      simp only [List.mem_range, Bool.and_eq_true, Bool.not_eq_true']
      constructor
      · rintro ⟨a, b, c⟩; exact ⟨⟨a, b⟩, c⟩
      · rintro ⟨⟨a, b⟩, c⟩; exact ⟨a, b, c⟩
    by_cases hempty : left ops listed = []
    · have hrs0 : rs = [] := by
        apply List.eq_nil_iff_forall_not_mem.2
        intro i hi
        have := ((hmem i).1 hi).1
        rw [hempty] at this; cases this
      rw [hrs0]
      refine ⟨[], ?_, by rw [hempty]; exact .nil⟩
      simp
    · -- the least one that is left may come
      have hex : ∃ i, i ∈ rs := by
        obtain ⟨i0, hi0⟩ := List.exists_mem_of_ne_nil _ hempty
        have : ∃ i, i ∈ left ops listed ∧ ∀ j, j < i → j ∉ left ops listed := by
          have key : ∀ m i, i ≤ m → i ∈ left ops listed → ∃ i, i ∈ left ops listed ∧ ∀ j, j < i → j ∉ left ops listed := by
            intro m
            induction m with
            | zero => intro i hi h; exact ⟨i, h, fun j hj => by omega⟩
            | succ m ihm =>
              intro i hi h
              by_cases hx : ∃ j, j < i ∧ j ∈ left ops listed
              · obtain ⟨j, hj, hjm⟩ := hx
                exact ihm j (by omega) hjm
              · exact ⟨i, h, fun j hj hjm => hx ⟨j, hj, hjm⟩⟩
          exact key i0 i0 (Nat.le_refl _) hi0
        obtain ⟨i, hi, hmin⟩ := this
        refine ⟨i, (hmem i).2 ⟨hi, ?_⟩⟩
        have hlt := (mem_left.1 hi).1
        rw [Array.getElem?_eq_getElem hlt]
        simp only [Option.map_some, Option.getD_some]
        rw [Array.all_eq_true]
        intro m hm
        simp only [Bool.or_eq_true, Bool.not_eq_true']
        unfold edgesOk at he
        rw [List.all_eq_true] at he
        have h1 := he i (List.mem_range.2 hlt)
        rw [Array.getElem?_eq_getElem hlt] at h1
        dsimp only at h1
        rw [Array.all_eq_true] at h1
        have h2 := h1 m hm
        simp only [Bool.or_eq_true, Bool.not_eq_true'] at h2
        rcases h2 with h2 | h2
        · exact .inl h2
        · refine .inr ?_
          have hon : (ops[i].after[m]).on < i := Nat.blt_eq ▸ h2
          have hn := hmin _ hon
          rw [mem_left] at hn
          have hon2 : (ops[i].after[m]).on < ops.size := by omega
          have hon3 : (ops[i].after[m]).on < listed.size := by omega
          have : listed.getD (ops[i].after[m]).on true ≠ false := fun h => hn ⟨hon2, h⟩
          simp only [Array.getD, hon3, dif_pos, ne_eq, Bool.not_eq_false] at this ⊢
          exact this
      have hpos : 0 < rs.length := by
        obtain ⟨i, hi⟩ := hex
        exact List.length_pos_of_mem hi
      have hlt : t % rs.length < rs.length := Nat.mod_lt _ hpos
      rw [List.getElem?_eq_getElem hlt]
      dsimp only
      generalize hi : rs[t % rs.length] = i
      have hir : i ∈ rs := by rw [← hi]; exact List.getElem_mem _
      obtain ⟨hil, hie⟩ := (hmem i).1 hir
      obtain ⟨hisz, hilf⟩ := mem_left.1 hil
      have hleft : left ops (listed.setIfInBounds i true) = without (left ops listed) i := by
        unfold left without
        rw [List.filter_filter]
        apply List.filter_congr
        intro x hx
        have hx' : x < listed.size := by rw [hsz]; exact List.mem_range.1 hx
        simp only [Array.getD, Array.size_setIfInBounds, hx', dif_pos]
        by_cases hxi : x = i
        · subst hxi; simp
        · have : (x == i) = false := by simpa using hxi
          rw [this]
          simp [Array.getElem_setIfInBounds_ne hx' (fun h : i = x => hxi h.symm)]
      have hlen : (left ops (listed.setIfInBounds i true)).length ≤ fuel := by
        rw [hleft]
        have : (without (left ops listed) i).length < (left ops listed).length := by
          unfold without
          exact List.length_filter_lt_length_iff_exists.2 ⟨i, hil, by simp⟩
        omega
      obtain ⟨l, h1, h2⟩ := ih (t / rs.length) (listed.setIfInBounds i true) (i :: acc) (by simp [hsz]) hlen
      refine ⟨i :: l, ?_, ?_⟩
      · rw [h1]; simp
      · refine .cons hil ?_ (by rw [← hleft]; exact h2)
        unfold enabled
        rw [Array.getElem?_eq_getElem hisz] at hie ⊢
        simp only [Option.map_some, Option.getD_some] at hie
        dsimp only
        rw [Array.all_eq_true] at hie ⊢
        intro m hm
        have := hie m hm
        simp only [Bool.or_eq_true, Bool.not_eq_true'] at this ⊢
        rcases this with h | h
        · exact .inl h
        · refine .inr ?_
          simp only [List.contains_eq_mem, decide_eq_false_iff_not, mem_left, not_and]
          intro h3
          have h4 : (ops[i].after[m]).on < listed.size := by omega
          simp only [Array.getD, h4, dif_pos] at h ⊢
          rw [h]; simp
theorem sch_schedule {ops : Array Oper} (he : edgesOk ops = true) (t : Nat) : Sch ops (List.range ops.size) (Region.schedule true ops t) := by
  have hl : left ops (Array.replicate ops.size false) = List.range ops.size := by
    unfold left
    apply List.filter_eq_self.2
    intro i hi
    have := List.mem_range.1 hi
    simp [Array.getD, this]
  obtain ⟨l, h1, h2⟩ := sch_linearise he ops.size t (Array.replicate ops.size false) [] (by simp) (by rw [hl]; simp)
  unfold Region.schedule Region.linearise
  simp only [Bool.true_or, if_true]
  rw [h1]
  rw [hl] at h2
  simpa using h2
theorem run_draw {P : Program} {b : Fr} {n : Nat} {G : Goal} {k : List Item} {ds : List Nat} {id : Nat} {ops : Array Oper} (hmix : P.follows .mixedOrders = true) (he : edgesOk ops = true)
    {env : Env} {w : World} {K : Env → World → Prop} (hK : ∀ env w, K env w → Run P b n G k env ds w)
    (h : ∀ w', Out w w' → w'.heap = w.heap → AnyD P ops (List.range ops.size) env w' K) : Run P b n G (.code (.region id ops true) :: k) env ds w := by
  refine run_region_draw fun t => ?_
  rw [hmix]
  exact run_ops hK _ _ _ (h { w with drawn := w.drawn + 1 } ⟨rfl, rfl⟩ rfl _ (sch_schedule he t))
end Go.Eng
/- The engine, part 4: regions over assertions; operations. -/
set_option linter.unusedVariables false
set_option linter.unusedSimpArgs false
namespace Go.Eng
open Go
def look : List (Nat × Value) → Env → Env
  | [], base => base
  | (j, v) :: l, base => fun i => bif Nat.beq j i then v else look l base i
def lookO : List (Nat × Value) → Nat → Option Value
  | [], _ => none
  | (j, v) :: l, i => bif Nat.beq j i then some v else lookO l i
def evO (l : List (Nat × Value)) : Operand → Option Value
  | .tmp t => lookO l t
  | .const v => some v
  | .global g => some (.pointer (some ⟨g, 0, none⟩))
  | .func f => some (.func (.func f) #[] #[])
theorem lookO_look {base : Env} : ∀ {l : List (Nat × Value)} {i : Nat} {v : Value}, lookO l i = some v → look l base i = v := by
  intro l
  induction l with
  | nil => intro i v h; cases h
  | cons x l ih =>
    obtain ⟨j, u⟩ := x
    intro i v h
    simp only [lookO, look] at h ⊢
    cases hb : Nat.beq j i
    · rw [hb] at h; exact ih h
    · rw [hb] at h; exact Option.some.inj h
theorem evO_ev {l : List (Nat × Value)} {base : Env} {x : Operand} {v : Value} (h : evO l x = some v) : ev (look l base) x = v := by
  cases x with
  | tmp t => exact lookO_look h
  | const u => exact Option.some.inj h
  | global g => exact Option.some.inj h
  | func f => exact Option.some.inj h
inductive Keep : List Nat → List (Nat × Value) → List (Nat × Value) → Prop
  | nil {l : List (Nat × Value)} : Keep [] l []
  | cons {k : Nat} {ks : List Nat} {l l' : List (Nat × Value)} {v : Value} (h : lookO l k = some v) (hs : Keep ks l l') : Keep (k :: ks) l ((k, v) :: l')
theorem Keep.look {ks : List Nat} {l l' : List (Nat × Value)} (h : Keep ks l l') (base : Env) : Eng.look l base = Eng.look l' (Eng.look l base) := by
  induction h with
  | nil => rfl
  | @cons k ks l l' v hk hs ih =>
    funext i
    simp only [Eng.look]
    cases hb : Nat.beq k i
    · simp only [cond_false]; exact congrFun ih i
    · simp only [cond_true]
      have : k = i := Nat.eq_of_beq_eq_true hb
      subst this
      exact lookO_look hk
section
variable {P : Program} {b : Fr} {n : Nat} {G : FGoal} {k : List Item} {l : List (Nat × Value)} {base : Env} {ds : List Nat} {L : List SL}
theorem tr_keep {ks : List Nat} {l' : List (Nat × Value)} (h : Keep ks l l') (ht : ∀ base', Tr P b n G k (look l' base') ds L) : Tr P b n G k (look l base) ds L := by
  rw [h.look base]; exact ht _
end
def execU (ρ : Operand → Value) (op : Op) (ty : TypeId) : Sem Next := execOp ρ { dst := none, op := op, type := ty, pos := "", after := #[], guard := none }
theorem execOp_U (ρ : Operand → Value) (o : Oper) : execOp ρ o = execU ρ o.op o.type := by
  obtain ⟨dst, op, type, pos, after, guard⟩ := o
  cases op <;> rfl
def ReadV (P : Program) (op : Op) (ty : TypeId) (env : Env) (L : List SL) (v : Value) : Prop :=
  ∀ F w, Holds L F w → (execU (ev env) op ty).run P w = .ok (.value v) w
def PureV (P : Program) (op : Op) (ty : TypeId) (env : Env) (v : Value) : Prop :=
  ∀ w, (execU (ev env) op ty).run P w = .ok (.value v) w
theorem PureV.read {P : Program} {op : Op} {ty : TypeId} {env : Env} {L : List SL} {v : Value} (h : PureV P op ty env v) : ReadV P op ty env L v := fun _ w _ => h w
def EffT (P : Program) (op : Op) (ty : TypeId) (env : Env) (L : List SL) (K : Value → List SL → Prop) : Prop :=
  ∀ F w, Holds L F w → NextWp P (fun v w' => (quietOp op = true → Grow w w') ∧ ∃ L', K v L' ∧ Holds L' F w') ((execU (ev env) op ty).run P w)
theorem EffT.mono {P : Program} {op : Op} {ty : TypeId} {env : Env} {L : List SL} {K K' : Value → List SL → Prop} (h : EffT P op ty env L K) (hk : ∀ v L', K v L' → K' v L') :
    EffT P op ty env L K' := fun F w hw => NextWp.mono (fun v w' ⟨h1, L', h2, h3⟩ => ⟨h1, L', hk _ _ h2, h3⟩) (h F w hw)
theorem ReadV.eff {P : Program} {op : Op} {ty : TypeId} {env : Env} {L : List SL} {v : Value} {K : Value → List SL → Prop} (h : ReadV P op ty env L v) (hk : K v L) : EffT P op ty env L K := by
  intro F w hw
  rw [h F w hw]
  exact ⟨fun _ => .refl _, L, hk, hw⟩
def SeqL (P : Program) (ops : Array Oper) : List Oper → Env → World → (Env → World → Prop) → Prop
  | [], env, w, K => K env w
  | o :: os, env, w, K =>
    if guardOk ops env o = true then OpWp P o env w (fun v w' => (quietOp o.op = true → Grow w w') ∧ SeqL P ops os (updO env o.dst v) w' K)
    else SeqL P ops os (updO env o.dst undef) w K
theorem seqOps_of_seqL {P : Program} {ops : Array Oper} {K : Env → World → Prop} : ∀ (os : List Oper) (i : Nat) (env : Env) (w : World), ops.toList.drop i = os →
    SeqL P ops os env w K → SeqOps P ops (List.range' i os.length) env w K := by
  intro os
  induction os with
  | nil => intro i env w _ h; exact h
  | cons o os ih =>
    intro i env w hd h
    simp only [List.length_cons, List.range'_succ, SeqOps, StepOp]
    have ho : ops[i]? = some o := by
      have : (ops.toList.drop i)[0]? = some o := by rw [hd]; rfl
      rw [List.getElem?_drop] at this
      simpa using this
    have hd' : ops.toList.drop (i + 1) = os := by
      rw [← List.drop_drop, hd]; rfl
    rw [ho]
    dsimp only
    simp only [SeqL] at h
    split
    · rename_i hg; rw [if_pos hg] at h
      exact h.mono fun v w' ⟨h1, h2⟩ => ⟨h1, ih (i + 1) _ _ hd' h2⟩
    · rename_i hg; rw [if_neg hg] at h
      exact ih (i + 1) _ _ hd' h
def TrL (P : Program) (b : Fr) (n : Nat) (G : FGoal) (ops : Array Oper) (os : List Oper) (k : List Item) (env : Env) (ds : List Nat) (L : List SL) : Prop :=
  ∀ F w, Holds L F w → SeqL P ops os env w (fun env' w' => Run P b n (G F) k env' ds w')
def TrA (P : Program) (b : Fr) (n : Nat) (G : FGoal) (ops : Array Oper) (rem : List Nat) (k : List Item) (env : Env) (ds : List Nat) (L : List SL) : Prop :=
  ∀ F w, Holds L F w → AnyD P ops rem env w (fun env' w' => Run P b n (G F) k env' ds w')
def gval (ops : Array Oper) (l : List (Nat × Value)) (j : Nat) : Option Value := match dstAt ops j with | some d => lookO l d | none => none
def nthO : List Oper → Nat → Option Oper
  | [], _ => none
  | o :: _, 0 => some o
  | _ :: os, i + 1 => nthO os i
theorem nthO_at : ∀ (os : List Oper) (i : Nat), nthO os i = os[i]? := by
  intro os
  induction os with
  | nil => intro i; rfl
  | cons o os ih =>
    intro i
    cases i with
    | zero => rfl
    | succ i => simp [nthO, ih]
section
variable {P : Program} {b : Fr} {n : Nat} {G : FGoal} {k : List Item} {l : List (Nat × Value)} {base : Env} {env : Env} {ds : List Nat} {L : List SL} {ops : Array Oper} {os : List Oper}
theorem tr_region {id : Nat} (h : TrL P b n G ops ops.toList k env ds L) : Tr P b n G (.code (.region id ops false) :: k) env ds L := by
  intro F w hw
  refine run_region (run_ops (fun _ _ h => h) _ _ _ ?_)
  have := seqOps_of_seqL ops.toList 0 env w rfl (h F w hw)
  rw [List.range_eq_range']
  simpa using this
theorem trl_nil (h : Tr P b n G k env ds L) : TrL P b n G ops [] k env ds L := h
theorem guardOk_none {o : Oper} (h : o.guard = none) : guardOk ops env o = true := by unfold guardOk; rw [h]
theorem guardOk_some {o : Oper} {j : Nat} {want t : Bool} (h : o.guard = some (j, want)) (hg : gval ops l j = some (.bool t)) : guardOk ops (look l base) o = (t == want) := by
  unfold guardOk
  rw [h]
  dsimp only
  unfold gval at hg
  cases hd : dstAt ops j with
  | none => rw [hd] at hg; cases hg
  | some d =>
    rw [hd] at hg
    dsimp only at hg ⊢
    rw [lookO_look hg]
theorem trl_eff {d : Nat} {op : Op} {ty : TypeId} {pos : String} {aft : Array Edge} (h : EffT P op ty (look l base) L (fun v L' => TrL P b n G ops os k (look ((d, v) :: l) base) ds L')) :
    TrL P b n G ops ({ dst := some d, op := op, type := ty, pos := pos, after := aft, guard := none } :: os) k (look l base) ds L := by
  intro F w hw
  simp only [SeqL]
  rw [if_pos (guardOk_none rfl)]
  unfold OpWp
  rw [execOp_U]
  exact NextWp.mono (fun v w' ⟨h1, L', h2, h3⟩ => ⟨h1, h2 F w' h3⟩) (h F w hw)
theorem trl_eff0 {op : Op} {ty : TypeId} {pos : String} {aft : Array Edge} (h : EffT P op ty (look l base) L (fun _ L' => TrL P b n G ops os k (look l base) ds L')) :
    TrL P b n G ops ({ dst := none, op := op, type := ty, pos := pos, after := aft, guard := none } :: os) k (look l base) ds L := by
  intro F w hw
  simp only [SeqL]
  rw [if_pos (guardOk_none rfl)]
  unfold OpWp
  rw [execOp_U]
  exact NextWp.mono (fun v w' ⟨h1, L', h2, h3⟩ => ⟨h1, h2 F w' h3⟩) (h F w hw)
theorem trl_val {d : Nat} {op : Op} {ty : TypeId} {pos : String} {aft : Array Edge} {v : Value} (hv : ReadV P op ty (look l base) L v) (h : TrL P b n G ops os k (look ((d, v) :: l) base) ds L) :
    TrL P b n G ops ({ dst := some d, op := op, type := ty, pos := pos, after := aft, guard := none } :: os) k (look l base) ds L := trl_eff (hv.eff h)
theorem trl_effg {d : Nat} {op : Op} {ty : TypeId} {pos : String} {aft : Array Edge} {j : Nat} {want t : Bool} (hg : gval ops l j = some (.bool t)) (ht : t = want)
    (h : EffT P op ty (look l base) L (fun v L' => TrL P b n G ops os k (look ((d, v) :: l) base) ds L')) :
    TrL P b n G ops ({ dst := some d, op := op, type := ty, pos := pos, after := aft, guard := some (j, want) } :: os) k (look l base) ds L := by
  intro F w hw
  simp only [SeqL]
  rw [if_pos (by rw [guardOk_some rfl hg, ht]; simp)]
  unfold OpWp
  rw [execOp_U]
  exact NextWp.mono (fun v w' ⟨h1, L', h2, h3⟩ => ⟨h1, h2 F w' h3⟩) (h F w hw)
theorem trl_valg {d : Nat} {op : Op} {ty : TypeId} {pos : String} {aft : Array Edge} {j : Nat} {want t : Bool} {v : Value} (hg : gval ops l j = some (.bool t)) (ht : t = want)
    (hv : ReadV P op ty (look l base) L v) (h : TrL P b n G ops os k (look ((d, v) :: l) base) ds L) :
    TrL P b n G ops ({ dst := some d, op := op, type := ty, pos := pos, after := aft, guard := some (j, want) } :: os) k (look l base) ds L := trl_effg hg ht (hv.eff h)
theorem trl_not {d : Nat} {op : Op} {ty : TypeId} {pos : String} {aft : Array Edge} {j : Nat} {want t : Bool} (hg : gval ops l j = some (.bool t)) (ht : t = !want)
    (h : TrL P b n G ops os k (look ((d, undef) :: l) base) ds L) :
    TrL P b n G ops ({ dst := some d, op := op, type := ty, pos := pos, after := aft, guard := some (j, want) } :: os) k (look l base) ds L := by
  intro F w hw
  simp only [SeqL]
  rw [if_neg (by rw [guardOk_some rfl hg, ht]; simp)]
  exact h F w hw
theorem tr_draw {id : Nat} {rem : List Nat} (hmix : P.follows .mixedOrders = true) (he : edgesOk ops = true) (hr : List.range ops.size = rem) (h : TrA P b n G ops rem k env ds L) :
    Tr P b n G (.code (.region id ops true) :: k) env ds L := by
  intro F w hw
  refine run_draw hmix he (K := fun env' w' => Run P b n (G F) k env' ds w') (fun _ _ h => h) fun w' h0 hw' => ?_
  rw [hr]
  exact h F w' (hw.same h0 hw')
theorem at_of_nthO {i : Nat} {o : Oper} (h : nthO ops.toList i = some o) : ops[i]? = some o := by
  rw [nthO_at] at h; simpa using h
def enabledL (ops : Array Oper) (rem : List Nat) : List Nat := rem.filter (enabled ops rem)
def TrAt (P : Program) (b : Fr) (n : Nat) (G : FGoal) (ops : Array Oper) (rem : List Nat) (k : List Item) (env : Env) (ds : List Nat) (L : List SL) (i : Nat) : Prop :=
  ∀ F w, Holds L F w → StepOp P ops i env w (fun env' w' => AnyD P ops (without rem i) env' w' (fun env'' w'' => Run P b n (G F) k env'' ds w''))
def allOf (p : Nat → Prop) : List Nat → Prop
  | [] => True
  | [i] => p i
  | i :: l => p i ∧ allOf p l
theorem allOf_mem {p : Nat → Prop} : ∀ {l : List Nat}, allOf p l → ∀ i ∈ l, p i := by
  intro l
  induction l with
  | nil => intro _ i hi; cases hi
  | cons a l ih =>
    intro h i hi
    cases l with
    | nil =>
      have : i = a := by simpa using hi
      subst this; exact h
    | cons a' l =>
      rcases List.mem_cons.1 hi with rfl | hi
      · exact h.1
      · exact ih h.2 i hi
end
end Go.Eng
