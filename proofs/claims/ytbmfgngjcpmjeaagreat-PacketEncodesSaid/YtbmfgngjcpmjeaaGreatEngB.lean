/- The engine: contracts of calls, operations, loops. -/
import Derived.Test.YtbmfgngjcpmjeaaGreatEngA
/- The engine, part 5: functions, calls, ranges over functions. -/
set_option linter.unusedVariables false
set_option linter.unusedSimpArgs false
namespace Go.Eng
open Go
structure Post where
  v : Value
  p : Prop
  L : List SL
def Spec (P : Program) (f : FuncId) (args : List Value) (pre : List SL) {α : Type} (post : α → Post) : Prop :=
  ∀ F w, Holds pre F w → Calls P f args.toArray w (fun e w' => ∃ x, e = .returned (post x).v ∧ (post x).p ∧ Holds (post x).L F w')
theorem Spec.mono {P : Program} {f : FuncId} {args : List Value} {pre : List SL} {α β : Type} {post : α → Post} {post' : β → Post} (h : Spec P f args pre post)
    (hm : ∀ x, (post x).p → ∃ y, (post x).v = (post' y).v ∧ (post' y).p ∧ ∀ F w, Holds (post x).L F w → Holds (post' y).L F w) : Spec P f args pre post' := by
  intro F w hw
  refine (h F w hw).mono ?_
  rintro e w' ⟨x, he, hp, hl⟩
  obtain ⟨y, hv, hp', hl'⟩ := hm x hp
  exact ⟨y, by rw [he, hv], hp', hl' F w' hl⟩
theorem Spec.frame {P : Program} {f : FuncId} {args : List Value} {pre : List SL} {α : Type} {post : α → Post} (h : Spec P f args pre post) (M : List SL) :
    Spec P f args (pre ++ M) (fun x => ⟨(post x).v, (post x).p, (post x).L ++ M⟩) := by
  intro F w hw
  refine (h _ w (Holds.frame.1 hw)).mono ?_
  rintro e w' ⟨x, he, hp, hl⟩
  exact ⟨x, he, hp, Holds.frame.2 hl⟩
theorem Spec.pre {P : Program} {f : FuncId} {args : List Value} {pre pre' : List SL} {α : Type} {post : α → Post} (h : Spec P f args pre post)
    (hp : ∀ F w, Holds pre' F w → Holds pre F w) : Spec P f args pre' post := fun F w hw => h F w (hp F w hw)
def argL : Nat → List Value → List (Nat × Value)
  | _, [] => []
  | i, v :: vs => (i, v) :: argL (i + 1) vs
theorem look_argL (base : Env) : ∀ (vs : List Value) (i j : Nat), look (argL i vs) base j = if h : i ≤ j ∧ j - i < vs.length then vs[j - i]'h.2 else base j := by
  intro vs
  induction vs with
  | nil => intro i j; simp [argL, look]
  | cons v vs ih =>
    intro i j
    simp only [argL, look]
    by_cases hij : i = j
    · subst hij
      simp
    · have : Nat.beq i j = false := by
        cases hb : Nat.beq i j
        · rfl
        · exact absurd (Nat.eq_of_beq_eq_true hb) hij
      rw [this, cond_false, ih]
      by_cases hlt : i < j
      · by_cases hl : j - (i + 1) < vs.length
        · rw [dif_pos ⟨by omega, hl⟩, dif_pos ⟨by omega, by simp; omega⟩]
          have e : j - i = j - (i + 1) + 1 := by omega
          simp only [e, List.getElem_cons_succ]
        · rw [dif_neg (by omega), dif_neg (by simp; omega)]
      · rw [dif_neg (by omega), dif_neg (by omega)]
inductive ResO (P : Program) (l : List (Nat × Value)) (L : List SL) : List ResultVar → List Value → Prop
  | nil : ResO P l L [] []
  | tmp {t : Nat} {v : Value} {rs : List ResultVar} {vs : List Value} (h : lookO l t = some v) (hs : ResO P l L rs vs) : ResO P l L (.tmp t :: rs) (v :: vs)
  | cell {a : Nat} {ty : TypeId} {p : Addr} {v : Value} {rs : List ResultVar} {vs : List Value} (ha : lookO l a = some (.pointer (some p)))
      (hv : ∀ F w, Holds L F w → (loadVar ty p).run P w = .ok v w) (hs : ResO P l L rs vs) : ResO P l L (.cell a ty :: rs) (v :: vs)
def resOk (n : Nat) : List ResultVar → Bool
  | [] => true
  | .tmp t :: rs => Nat.blt t n && resOk n rs
  | .cell a _ :: rs => Nat.blt a n && resOk n rs
def oneOf : List Value → Value
  | [v] => v
  | vs => .tuple vs.toArray
def resF (tm : Array Value) : ResultVar → Sem Value
  | .tmp t => pure (tm.getD t undef)
  | .cell a t => do loadVar t (← asAddr (tm.getD a undef))
theorem results_eq (fn : Func) (tm : Array Value) : results fn tm = (fn.results.mapM (resF tm) >>= fun vs => pure (if h : vs.size = 1 then vs[0] else .tuple vs)) := by
  unfold results
  congr 1
theorem ResO.run {P : Program} {l : List (Nat × Value)} {base : Env} {L : List SL} {fn : Func} {vs : List Value} (h : ResO P l L fn.results.toList vs) {tm : Array Value} (hr : Rep tm (look l base))
    (hok : resOk tm.size fn.results.toList = true) {F : Fm} {w : World} (hw : Holds L F w) : (results fn tm).run P w = .ok (oneOf vs) w := by
  have key : ∀ (rs : List ResultVar) (vs : List Value), ResO P l L rs vs → resOk tm.size rs = true → (rs.mapM (resF tm)).run P w = .ok vs w := by
    intro rs vs h
    induction h with
    | nil => intro _; simp [List.mapM_nil]
    | @tmp t v rs vs ht hs ih =>
      intro hok
      simp only [resOk, Bool.and_eq_true] at hok
      have hlt : t < tm.size := Nat.blt_eq ▸ hok.1
      have h2 : (resF tm (.tmp t)).run P w = .ok v w := by
        have : tm.getD t undef = v := by rw [hr t hlt]; exact lookO_look ht
        simp only [resF, this, Sem.run_pure]
      simp only [List.mapM_cons, Sem.run_bind, h2, Sem.run_pure, Result.andThen_ok, ih hok.2]
    | @cell a ty p v rs vs ha hv hs ih =>
      intro hok
      simp only [resOk, Bool.and_eq_true] at hok
      have hlt : a < tm.size := Nat.blt_eq ▸ hok.1
      have h2 : (resF tm (.cell a ty)).run P w = .ok v w := by
        have : tm.getD a undef = .pointer (some p) := by rw [hr a hlt]; exact lookO_look ha
        simp only [resF, this, asAddr, Sem.run_bind, Sem.run_pure, Result.andThen_ok, hv F w hw]
      simp only [List.mapM_cons, Sem.run_bind, h2, Sem.run_pure, Result.andThen_ok, ih hok.2]
  have h1 := key _ _ h hok
  rw [results_eq, Sem.run_bind, Array.mapM_eq_mapM_toList, Sem.run_map, h1]
  simp only [Result.andThen_ok, Sem.run_pure]
  cases vs with
  | nil => simp [oneOf]
  | cons v vs =>
    cases vs with
    | nil => simp [oneOf]
    | cons v' vs => simp [oneOf]
def FnG (P : Program) (f : FuncId) {α : Type} (post : α → Post) : FGoal := fun F cs m' =>
  ∃ v w' fr', m' = lone fr' cs w' ∧ fr'.fn = f ∧ fr'.leaving P w' (.returned v) ∧ ∃ x, v = (post x).v ∧ (post x).p ∧ Holds (post x).L F w'
theorem spec_of_tr {P : Program} {f : FuncId} {fn : Func} {c : Code} {args : List Value} {pre : List SL} {α : Type} {post : α → Post} (hf : P.funcs[f]? = some fn) (hb : fn.body = some c) {n : Nat} (hn : fn.ntmps = n)
    (hok : (codeOk n c && Nat.ble args.length n) = true) (h : Tr P ⟨f, .normal, none⟩ n (FnG P f post) [.code c] (look (argL 0 args) (fun _ => undef)) [] pre) : Spec P f args pre post := by
  subst hn
  simp only [Bool.and_eq_true, Nat.ble_eq] at hok
  intro F w hw cs
  have hsz : (args.toArray ++ Array.replicate (fn.ntmps - args.toArray.size) undef).size = fn.ntmps := by
    have := hok.2
    simp; omega
  have hrep : Rep (args.toArray ++ Array.replicate (fn.ntmps - args.toArray.size) undef) (look (argL 0 args) (fun _ => undef)) := by
    intro i hi
    rw [look_argL]
    simp only [Nat.zero_le, Nat.sub_zero, true_and]
    rw [hsz] at hi
    by_cases hlt : i < args.length
    · rw [dif_pos hlt]
      simp [Array.getD, hi, hlt, Array.getElem_append]
      intro h'; omega
    · rw [dif_neg hlt]
      simp only [Array.getD]
      split
      · rw [Array.getInternal_eq_getElem, Array.getElem_append_right (by simpa using hlt)]
        simp
      · rfl
  obtain ⟨m', hst, v, w', fr', rfl, hfn, hl, x, hv, hp, hL⟩ := h F w hw (todoOk_mk hok.1 (fun _ h => by cases h)) _ cs hsz hrep
  refine ⟨.returned v, w', fr', ⟨x, by rw [hv], hp, hL⟩, ?_, hfn, hl⟩
  have henter : Frame.enter P f args.toArray .normal =
      (⟨f, .normal, none⟩ : Fr).at (args.toArray ++ Array.replicate (fn.ntmps - args.toArray.size) undef) (([] : List Nat).map mark) [.code c] := by
    simp [Frame.enter, Fr.at, hf, hb]
  rw [henter]
  exact hst
def dblk (r : Nat) : SL := pobj r (.deferred (some []))
section
variable {P : Program} {n : Nat} {k : List Item} {l : List (Nat × Value)} {base : Env} {ds : List Nat} {L M : List SL}
theorem unwind_marks {f : FuncId} {kd : CallKind} {tm : Array Value} {todo : List Item} : ∀ (ds : List Nat) (M : List SL) (F : Fm) (w : World) (cs : List Frame),
    Holds (ds.map dblk ++ M) F w →
    ∃ w', Steps P (lone { fn := f, tmps := tm, todo := todo, defers := ds.map mark, mode := .returning, kind := kd, roundOf := none } cs w)
      (lone { fn := f, tmps := tm, todo := todo, defers := [], mode := .returning, kind := kd, roundOf := none } cs w') ∧ Holds M F w' := by
  intro ds
  induction ds with
  | nil => intro M F w cs h; exact ⟨w, .refl _ _, h⟩
  | cons r ds ih =>
    intro M F w cs h
    simp only [List.map_cons, List.cons_append] at h
    have hr := Holds.obj h
    have hlt : r < w.heap.size := (Array.getElem?_eq_some_iff.1 hr).1
    have hrun : (Instr.takeDeferred r).run P w = .ok [] { w with heap := w.heap.setIfInBounds r (.deferred none) } := by
      simp [Instr.takeDeferred, getObj, setObj, Sem.run, hr, Sem.bind]
    have h' : Holds (pobj r (.deferred none) :: (ds.map dblk ++ M)) F { w with heap := w.heap.setIfInBounds r (.deferred none) } := by
      refine h.setObj ⟨rfl, rfl⟩ ?_ ?_
      · simp [hlt]
      · intro r' hr'
        show (w.heap.setIfInBounds r (.deferred none))[r']? = w.heap[r']?
        rw [Array.getElem?_setIfInBounds_ne (fun e => hr' e.symm)]
    obtain ⟨w', hst, hM⟩ := ih M F _ cs h'.drop
    refine ⟨w', .head (step_lone_go ?_) hst, hM⟩
    simp [stepG, unwind, mark, Sem.runT_eq, hrun]
theorem tr_ret {f : FuncId} {kd : CallKind} {fn : Func} {α : Type} {post : α → Post} {vs : List Value} (hf : P.funcs[f]? = some fn) (hk : kd = .normal) (hds : Picks (ds.map dblk) L M)
    (hok : resOk n fn.results.toList = true) (hr : ResO P l M fn.results.toList vs) (x : α) (hv : oneOf vs = (post x).v) (hp : (post x).p) (hL : ∀ F w, Holds M F w → Holds (post x).L F w) :
    Tr P ⟨f, kd, none⟩ n (FnG P f post) (.code .ret :: k) (look l base) ds L := by
  subst hk
  intro F w hw _ tm cs hn hrep
  obtain ⟨w', hst, hM⟩ := unwind_marks (P := P) (f := f) (kd := .normal) (tm := tm) (todo := .code .ret :: k) ds M F w cs (hw.picks hds)
  refine ⟨_, .head (step_lone_go ?_) hst, oneOf vs, w', _, rfl, rfl, ⟨rfl, rfl, rfl, fn, hf, hr.run hrep (hn ▸ hok) hM⟩, x, hv, hp, hL F w' hM⟩
  simp [stepG, stepG.exec, Fr.at]
theorem tr_end {f : FuncId} {kd : CallKind} {fn : Func} {α : Type} {post : α → Post} {vs : List Value} (hf : P.funcs[f]? = some fn) (hk : kd = .normal) (hds : Picks (ds.map dblk) L M)
    (hok : resOk n fn.results.toList = true) (hr : ResO P l M fn.results.toList vs) (x : α) (hv : oneOf vs = (post x).v) (hp : (post x).p) (hL : ∀ F w, Holds M F w → Holds (post x).L F w) :
    Tr P ⟨f, kd, none⟩ n (FnG P f post) [] (look l base) ds L := by
  subst hk
  intro F w hw _ tm cs hn hrep
  obtain ⟨w', hst, hM⟩ := unwind_marks (P := P) (f := f) (kd := .normal) (tm := tm) (todo := []) ds M F w cs (hw.picks hds)
  refine ⟨_, .head (step_lone_go ?_) hst, oneOf vs, w', _, rfl, rfl, ⟨rfl, rfl, rfl, fn, hf, hr.run hrep (hn ▸ hok) hM⟩, x, hv, hp, hL F w' hM⟩
  simp [stepG, stepG.exec, Fr.at]
end
def argsO (l : List (Nat × Value)) : List Operand → Option (List Value)
  | [] => some []
  | x :: xs => match evO l x, argsO l xs with
    | some v, some vs => some (v :: vs)
    | _, _ => none
theorem argsO_map {l : List (Nat × Value)} {base : Env} : ∀ {xs : List Operand} {vs : List Value}, argsO l xs = some vs → xs.map (ev (look l base)) = vs := by
  intro xs
  induction xs with
  | nil => intro vs h; simp [argsO] at h; simp [h]
  | cons x xs ih =>
    intro vs h
    simp only [argsO] at h
    split at h
    · rename_i v vs' h1 h2
      injection h with h; subst h
      simp [evO_ev h1, ih h2]
    · cases h
section
variable {P : Program} {l : List (Nat × Value)} {base : Env} {L M : List SL} {ty : TypeId} {K : Value → List SL → Prop}
theorem ef_call {f : FuncId} {fop : Operand} {as : Array Operand} {tys : Array TypeId} {vs cap : List Value} {pre : List SL} {α : Type} {post : α → Post}
    (hf : evO l fop = some (.func (.func f) #[] cap.toArray)) (ha : argsO l as.toList = some vs) (hC : ∀ args w, (callFunc f args).run P w = .ok (.enter f args) w)
    (hs : Spec P f (vs ++ cap) pre post) (hp : Picks pre L M) (hk : ∀ x, (post x).p → K (post x).v ((post x).L ++ M)) :
    EffT P (.call ⟨.value fop, as, tys⟩) ty (look l base) L K := by
  intro F w hw
  have h1 : as.map (ev (look l base)) = vs.toArray := by
    apply Array.toList_inj.1
    rw [Array.toList_map]
    simpa using argsO_map (base := base) ha
  have hrun : (execU (ev (look l base)) (.call ⟨.value fop, as, tys⟩) ty).run P w = .ok (.enter f (vs ++ cap).toArray) w := by
    simp [execU, execOp, resolve, evO_ev hf, Deferred.ofValue, h1, invoke, hC]
  rw [hrun]
  refine (hs _ w (Holds.frame.1 (hw.picks hp))).mono ?_
  rintro e w' ⟨x, he, hpx, hL⟩
  exact ⟨_, he, fun hq => by simp [quietOp] at hq, _, hk x hpx, Holds.frame.2 hL⟩
def YieldSpec (P : Program) (lp : Nat) (args : List Value) (A : List SL) (B : Bool → List SL) : Prop :=
  ∀ F w, Holds A F w → NextWp P (fun v w' => ∃ b, v = .bool b ∧ Holds (B b) F w') ((Instr.yield lp args.toArray).run P w)
theorem ef_yield {lp : Nat} {fop : Operand} {as : Array Operand} {tys : Array TypeId} {vs : List Value} {A : List SL} {B : Bool → List SL}
    (hf : evO l fop = some (.func (.yield lp) #[] #[])) (ha : argsO l as.toList = some vs) (hs : YieldSpec P lp vs A B) (hp : Picks A L M) (hk : ∀ b, K (.bool b) (B b ++ M)) :
    EffT P (.call ⟨.value fop, as, tys⟩) ty (look l base) L K := by
  intro F w hw
  have h1 : as.map (ev (look l base)) = vs.toArray := by
    apply Array.toList_inj.1
    rw [Array.toList_map]
    simpa using argsO_map (base := base) ha
  have hrun : (execU (ev (look l base)) (.call ⟨.value fop, as, tys⟩) ty).run P w = (Instr.yield lp vs.toArray).run P w := by
    simp [execU, execOp, resolve, evO_ev hf, Deferred.ofValue, h1, invoke]
  rw [hrun]
  refine NextWp.mono ?_ (hs _ w (Holds.frame.1 (hw.picks hp)))
  rintro v w' ⟨bb, rfl, hL⟩
  exact ⟨fun hq => by simp [quietOp] at hq, _, hk bb, Holds.frame.2 hL⟩
end
def lobj (f : FuncId) (tm : Array Value) (ps : Array Tmp) (asg body : Code) (dfr : Nat) (st : LoopState) (pend : Option Code) : Obj :=
  .loop { state := st, pending := pend, fn := f, tmps := tm, params := ps, assign := asg, body := body, defers := dfr }
def RoundG (B : Bool → List SL) : FGoal := fun F cs m' =>
  match cs with
  | [] => True
  | c :: cs' => ∃ b w', m' = lone (c.finish (.bool b)) cs' w' ∧ Holds (B b) F w'
section
variable {P : Program} {n : Nat} {k : List Item} {env : Env} {L M : List SL} {f : FuncId} {lp : Nat} {B : Bool → List SL} {tm0 : Array Value} {ps : Array Tmp} {asg body : Code} {dfr : Nat} {pend : Option Code} {st : LoopState}
theorem setObj_holds {lp : Nat} {o o' : Obj} {M : List SL} {F : Fm} {w : World} (h : Holds (pobj lp o :: M) F w) :
    Holds (pobj lp o' :: M) F { w with heap := w.heap.setIfInBounds lp o' } := by
  have hr := Holds.obj h
  have hlt : lp < w.heap.size := (Array.getElem?_eq_some_iff.1 hr).1
  refine h.setObj ⟨rfl, rfl⟩ ?_ ?_
  · simp [hlt]
  · intro r' hr'
    show (w.heap.setIfInBounds lp o')[r']? = w.heap[r']?
    rw [Array.getElem?_setIfInBounds_ne (fun e => hr' e.symm)]
theorem getLoop_run {w : World} {r : Loop} (h : w.heap[lp]? = some (.loop r)) : (Instr.getLoop lp).run P w = .ok r w := by
  simp [Instr.getLoop, getObj, Sem.run, h, Sem.bind]
theorem setObj_run {w : World} {r : Loop} (h : w.heap[lp]? = some (.loop r)) (o : Obj) : (Go.setObj lp o).run P w = .ok () { w with heap := w.heap.setIfInBounds lp o } := by
  simp [Go.setObj, Sem.run, h]
theorem tr_beginRound {G : FGoal} {ds : List Nat} (hp : Pick (pobj lp (lobj f tm0 ps asg body dfr .ready pend)) L M) (h : Tr P ⟨f, .normal, some lp⟩ n G k env ds (pobj lp (lobj f tm0 ps asg body dfr .busy pend) :: M)) :
    Tr P ⟨f, .normal, some lp⟩ n G (.beginRound :: k) env ds L := by
  intro F w hw hok tm cs hn hr
  have h1 := hw.perm hp.perm
  have hobj := Holds.obj h1
  obtain ⟨m', hst, hg⟩ := h F _ (setObj_holds h1) (todoOk_cons hok).2 tm cs hn hr
  refine ⟨m', .head (step_lone_go ?_) hst, hg⟩
  have hrun : (Instr.beginRound lp).run P w = .ok () { w with heap := w.heap.setIfInBounds lp (lobj f tm0 ps asg body dfr .busy pend) } := by
    unfold Instr.beginRound
    rw [Sem.run_bind, getLoop_run hobj]
    simp only [Result.andThen_ok, Sem.run_bind, setObj_run hobj]
    rfl
  have hrun2 : ((do (some lp).elim (stuck "beginRound: no round") Instr.beginRound; pure Next.skip) : Sem Next).run P w =
      .ok .skip { w with heap := w.heap.setIfInBounds lp (lobj f tm0 ps asg body dfr .busy pend) } := by
    simp only [Option.elim_some, Sem.run_bind, hrun, Result.andThen_ok, Sem.run_pure]
  simp [stepG, stepG.exec, Fr.at, stepG.apply, Frame.finish, hrun]
theorem leave_round (jump : Option Code) {F : Fm} {w : World} (h1 : Holds (pobj lp (lobj f tm0 ps asg body dfr .busy pend) :: M) F w) :
    (Instr.endRound lp jump).run P w = .ok (.bool jump.isNone) { w with heap := w.heap.setIfInBounds lp (lobj f tm0 ps asg body dfr (if jump.isNone then .ready else .done) jump) } := by
  have hobj := Holds.obj h1
  unfold Instr.endRound
  rw [Sem.run_bind, getLoop_run hobj]
  simp only [Result.andThen_ok, Sem.run_bind, setObj_run hobj]
  rfl
theorem tr_round_end (hp : Pick (pobj lp (lobj f tm0 ps asg body dfr .busy pend)) L M)
    (hB : ∀ F w, Holds (pobj lp (lobj f tm0 ps asg body dfr .ready none) :: M) F w → Holds (B true) F w) :
    Tr P ⟨f, .normal, some lp⟩ n (RoundG B) [] env [] L := by
  intro F w hw hok tm cs hn hr
  have h1 := hw.perm hp.perm
  cases cs with
  | nil => exact ⟨_, .refl _ _, trivial⟩
  | cons c cs =>
    refine ⟨_, .one (step_lone_go ?_), true, _, rfl, hB F _ (setObj_holds h1)⟩
    simp [stepG, stepG.exec, Fr.at, doReturn, leave_round none h1]
end
def bindL : List Tmp → List Value → List (Nat × Value) → List (Nat × Value)
  | p :: ps, v :: vs, l => bindL ps vs ((p, v) :: l)
  | _, _, l => l
theorem bind_rep {tm : Array Value} {base : Env} : ∀ (ps : List Tmp) (vs : List Value) (l : List (Nat × Value)) (tm : Array Value), Rep tm (look l base) → Rep ((ps.zip vs).foldl (fun tm (t, a) => tm.setIfInBounds t a) tm) (look (bindL ps vs l) base) := by
  intro ps
  induction ps with
  | nil => intro vs l tm h; simpa [bindL] using h
  | cons p ps ih =>
    intro vs l tm h
    cases vs with
    | nil => simpa [bindL] using h
    | cons v vs =>
      simp only [List.zip_cons_cons, List.foldl_cons, bindL]
      exact ih vs _ _ (h.upd p v)
theorem bind_size : ∀ (ps : List Tmp) (vs : List Value) (tm : Array Value), ((ps.zip vs).foldl (fun tm (t, a) => tm.setIfInBounds t a) tm).size = tm.size := by
  intro ps
  induction ps with
  | nil => intro vs tm; rfl
  | cons p ps ih =>
    intro vs tm
    cases vs with
    | nil => rfl
    | cons v vs => simp only [List.zip_cons_cons, List.foldl_cons]; rw [ih]; simp
theorem yield_of_round {P : Program} {n : Nat} {f : FuncId} {lp : Nat} {tm0 : Array Value} {ps : Array Tmp} {asg body : Code} {dfr : Nat} {l l' : List (Nat × Value)} {base : Env} {vs : List Value} {J : List SL} {B : Bool → List SL}
    (hn : tm0.size = n) (hrep : Rep tm0 (look l base)) (hok : (codeOk n asg && codeOk n body && ps.size == vs.length) = true) (hl : bindL ps.toList vs l = l')
    (h : Tr P ⟨f, .normal, some lp⟩ n (RoundG B) [.code asg, .beginRound, .code body] (look l' base) [] (pobj lp (lobj f tm0 ps asg body dfr .ready none) :: J)) :
    YieldSpec P lp vs (pobj lp (lobj f tm0 ps asg body dfr .ready none) :: J) B := by
  subst hl
  simp only [Bool.and_eq_true, beq_iff_eq] at hok
  intro F w hw
  have hobj := Holds.obj hw
  have hrun : (Instr.yield lp vs.toArray).run P w = .ok (.round lp f ((ps.toList.zip vs).foldl (fun tm (t, a) => tm.setIfInBounds t a) tm0) asg body) w := by
    unfold Instr.yield
    rw [Sem.run_bind, getLoop_run hobj]
    simp only [Result.andThen_ok]
    have hsz : ¬ (vs.toArray.size ≠ ps.size) := by simp [hok.2]
    rw [if_neg hsz]
    simp only [Sem.run_pure]
    congr 1
    congr 1
    rw [← Array.foldl_toList]
    simp
  rw [hrun]
  intro c cs
  obtain ⟨m', hst, hg⟩ := h F w hw (todoOk_mk hok.1.1 (todoOk_mk rfl (todoOk_mk hok.1.2 (fun _ h => by cases h))))
    ((ps.toList.zip vs).foldl (fun tm (t, a) => tm.setIfInBounds t a) tm0) (c :: cs) (by rw [bind_size]; exact hn) (bind_rep (tm := tm0) _ _ _ _ hrep)
  obtain ⟨b, w', rfl, hB⟩ := hg
  exact ⟨.bool b, w', ⟨b, rfl, hB⟩, hst⟩
def IterSpec (P : Program) (g : FuncId) (cap : List Value) (R : List SL) (N : Nat) (enc : Nat → List Value) (Q : List SL → Prop) : Prop :=
  ∀ (lp : Nat) (I : Nat → List SL) (X : List SL), (∀ i, i ≤ N → Q (I i)) → (∀ i, i < N → YieldSpec P lp (enc i) (I i) (fun b => if b then I (i + 1) else X)) →
    Spec P g (.func (.yield lp) #[] #[] :: cap) (R ++ I 0) (fun done : Bool => ⟨.tuple #[], True, R ++ (if done then I N else X)⟩)
theorem YieldSpec.stars {P : Program} {lp : Nat} {vs : List Value} {A : List SL} {B : Bool → List SL} (h : YieldSpec P lp vs A B) {B' : Bool → List SL} (hB : ∀ b F w, Holds (B b) F w → Holds (B' b) F w) :
    YieldSpec P lp vs [Eng.stars A] B' := fun F w hw => NextWp.mono (fun v w' ⟨b, e, hb⟩ => ⟨b, e, hB b F w' hb⟩) (h F w (by have := Holds.stars.1 hw; rwa [List.append_nil] at this))
theorem iter_of {P : Program} {g : FuncId} {cap : List Value} {R : List SL} {N : Nat} {enc : Nat → List Value} {Q : List SL → Prop} (hQ : ∀ I, Q I → Q [Eng.stars I])
    (h : ∀ (lp : Nat) (A : Nat → SL) (X : SL), (∀ i, i ≤ N → Q [A i]) → (∀ i, i < N → YieldSpec P lp (enc i) [A i] (fun b => [if b then A (i + 1) else X])) →
      Spec P g (.func (.yield lp) #[] #[] :: cap) (R ++ [A 0]) (fun done : Bool => ⟨.tuple #[], True, R ++ [if done then A N else X]⟩)) : IterSpec P g cap R N enc Q := by
  intro lp I X hq hy
  refine ((h lp (fun i => Eng.stars (I i)) (Eng.stars X) (fun i hi => hQ _ (hq i hi)) (fun i hi => YieldSpec.stars (hy i hi) ?_)).pre ?_).mono ?_
  · intro b F w hw
    cases b
    · exact Holds.stars.2 (by rw [List.append_nil]; exact hw)
    · exact Holds.stars.2 (by rw [List.append_nil]; exact hw)
  · intro F w hw
    exact (Holds.stars.2 (hw.perm List.perm_append_comm)).perm (List.perm_append_comm (l₁ := [_]))
  · intro done _
    refine ⟨done, rfl, trivial, fun F w hw => ?_⟩
    have h1 := hw.perm (List.perm_append_comm (l₂ := [_]))
    cases done
    · exact (Holds.stars.1 h1).perm List.perm_append_comm
    · exact (Holds.stars.1 h1).perm List.perm_append_comm
section
variable {P : Program} {n : Nat} {k : List Item} {L M : List SL} {G : FGoal} {f : FuncId} {kd : CallKind} {l : List (Nat × Value)} {base : Env} {ds : List Nat} {fop : Operand} {ps : Array Tmp} {asg body : Code}
  {g : FuncId} {cap : List Value} {R : List SL} {N : Nat} {enc : Nat → List Value}
theorem end_range {lp : Nat} {tm0 : Array Value} {dfr : Nat} {st : LoopState} {pend : Option Code} (hst : st ≠ .busy) {b : Fr} {F : Fm} {w : World} {L : List SL}
    (hw : Holds (pobj lp (lobj f tm0 ps asg body dfr st pend) :: L) F w) {tm : Array Value} {dd : List Deferred} {cs : List Frame} :
    ∃ w', Holds L F w' ∧ step P (lone (b.at tm dd (.endRangeFunc lp :: k)) cs w) = .next (lone (b.at tm dd ((pend.map Item.code).toList ++ k)) cs w') := by
  have hobj := Holds.obj hw
  have hrun : (Instr.endLoop lp).run P w = .ok pend { w with heap := w.heap.setIfInBounds lp (lobj f tm0 ps asg body dfr .exhausted pend) } := by
    unfold Instr.endLoop
    rw [Sem.run_bind, getLoop_run hobj]
    have hb : (st == LoopState.busy) = false := by simpa using hst
    simp only [Result.andThen_ok, hb, Bool.false_eq_true, if_false, Sem.run_bind, setObj_run hobj, Sem.run_pure]
    rfl
  refine ⟨_, (setObj_holds (o' := lobj f tm0 ps asg body dfr .exhausted pend) hw).drop, step_lone_go ?_⟩
  simp [stepG, stepG.exec, Fr.at, Sem.runT_eq, hrun]
theorem tr_range (hf : evO l fop = some (.func (.func g) #[] cap.toArray)) (hC : ∀ args w, (callFunc g args).run P w = .ok (.enter g args) w)
    {Q : List SL → Prop} (hit : IterSpec P g cap R N enc Q) (J : Nat → List SL) (hQ : ∀ lp o i, i ≤ N → Q (pobj lp o :: J i)) (X : Code → List SL) (hp : Picks (R ++ J 0) L M) (hok : ∀ i, i < N → ps.size = (enc i).length)
    (hround : ∀ lp tm0 dfr i, i < N → Tr P ⟨f, .normal, some lp⟩ n (RoundG (fun b => if b then pobj lp (lobj f tm0 ps asg body dfr .ready none) :: J (i + 1)
        else [ex fun c => star (pobj lp (lobj f tm0 ps asg body dfr .done (some c))) (stars (pure' (codeOk n c = true) :: X c))]))
      [.code asg, .beginRound, .code body] (look (bindL ps.toList (enc i) l) base) [] (pobj lp (lobj f tm0 ps asg body dfr .ready none) :: J i))
    (hdone : ∀ r0, Tr P ⟨f, kd, none⟩ n G k (look l base) (r0 :: ds) (dblk r0 :: (R ++ J N ++ M)))
    (hexit : ∀ r0 c, Tr P ⟨f, kd, none⟩ n G (.code c :: k) (look l base) (r0 :: ds) (dblk r0 :: (R ++ X c ++ M))) :
    Tr P ⟨f, kd, none⟩ n G (.code (.rangeFunc fop ps asg body) :: k) (look l base) ds L := by
  intro F w hw hokt tm cs hn hr
  have hck := (todoOk_cons hokt).1
  simp only [itemOk, codeOk, Bool.and_eq_true] at hck
  -- the two new blocks
  let w1 : World := { w with heap := w.heap.push (.deferred (some [])) }
  let w2 : World := { w1 with heap := w1.heap.push (lobj f tm ps asg body w.heap.size .ready none) }
  have hH1 : Holds (dblk w.heap.size :: L) F w1 := hw.alloc ⟨rfl, rfl⟩ rfl
  have hH2 : Holds (pobj (w.heap.size + 1) (lobj f tm ps asg body w.heap.size .ready none) :: dblk w.heap.size :: L) F w2 := by
    have := hH1.alloc (w' := w2) (o := lobj f tm ps asg body w.heap.size .ready none) ⟨rfl, rfl⟩ rfl
    have hs : w1.heap.size = w.heap.size + 1 := by simp [w1]
    rw [hs] at this
    exact this
  have hrunE : (Instr.enterLoop f tm ps asg body none).run P w = .ok (w.heap.size + 1, [mark w.heap.size]) w2 := by
    simp [Instr.enterLoop, mark]
    rfl
  -- the iterator's call
  let I : Nat → List SL := fun i => pobj (w.heap.size + 1) (lobj f tm ps asg body w.heap.size .ready none) :: J i
  let XX : List SL := [ex fun c => star (pobj (w.heap.size + 1) (lobj f tm ps asg body w.heap.size .done (some c))) (stars (pure' (codeOk n c = true) :: X c))]
  have hy : ∀ i, i < N → YieldSpec P (w.heap.size + 1) (enc i) (I i) (fun b => if b then I (i + 1) else XX) := by
    intro i hi
    refine yield_of_round (l := l) (base := base) hn hr ?_ rfl (hround _ tm _ i hi)
    simp [hck.1.2, hck.2, hok i hi]
  have hspec := hit (w.heap.size + 1) I XX (fun i hi => hQ _ _ i hi) hy
  have hpre : Holds ((R ++ I 0) ++ (dblk w.heap.size :: M)) F w2 := by
    refine hH2.perm ?_
    have hpp := hp.perm
    have e1 : (pobj (w.heap.size + 1) (lobj f tm ps asg body w.heap.size .ready none) :: dblk w.heap.size :: L).Perm
        (pobj (w.heap.size + 1) (lobj f tm ps asg body w.heap.size .ready none) :: dblk w.heap.size :: (R ++ J 0 ++ M)) := (hpp.cons _).cons _
    refine e1.trans ?_
    simp only [I, List.append_assoc, List.cons_append]
    refine List.Perm.trans (l₂ := pobj (w.heap.size + 1) (lobj f tm ps asg body w.heap.size .ready none) :: (R ++ (J 0 ++ dblk w.heap.size :: M))) ?_ List.perm_middle.symm
    refine List.Perm.cons _ ?_
    rw [← List.append_assoc, ← List.append_assoc]
    exact List.perm_middle.symm
  have hcall := hspec _ w2 (Holds.frame.1 hpre)
  have hc2 := hcall ((⟨f, kd, none⟩ : Fr).at tm ((w.heap.size :: ds).map mark) (.inRangeFunc (w.heap.size + 1) :: k) :: cs)
  obtain ⟨e, w3, fr3, ⟨done, rfl, _, hL3⟩, hsteps, _, hleave⟩ := hc2
  have hL3' := Holds.frame.2 hL3
  have hev := hr.eval hn ⟨f, kd, none⟩ ((w.heap.size :: ds).map mark) (.inRangeFunc (w.heap.size + 1) :: k) hck.1.1.1
  have hstep1 : step P (lone ((⟨f, kd, none⟩ : Fr).at tm (ds.map mark) (.code (.rangeFunc fop ps asg body) :: k)) cs w) =
      .next (lone (Frame.enter P g (Value.func (.yield (w.heap.size + 1)) #[] #[] :: cap).toArray .normal) ((⟨f, kd, none⟩ : Fr).at tm ((w.heap.size :: ds).map mark) (.inRangeFunc (w.heap.size + 1) :: k) :: cs) w2) := by
    refine step_lone_go ?_
    have hres : ∀ fr' : Frame, fr'.eval fop = .func (.func g) #[] cap.toArray →
        ((do let d ← resolve fr'.eval { callee := .value fop, args := #[.const (.func (.yield (w.heap.size + 1)) #[] #[])], argTypes := #[] } 0; invoke d.target d.args) : Sem Next).run P w2 =
          .ok (.enter g (Value.func (.yield (w.heap.size + 1)) #[] #[] :: cap).toArray) w2 := by
      intro fr' h
      have hc : ∀ v, fr'.eval (.const v) = v := fun _ => rfl
      simp [resolve, h, Deferred.ofValue, invoke, hC, hc]
    rw [evO_ev hf] at hev
    simp only [Fr.at] at hev
    simp only [stepG, stepG.exec, Fr.at, Sem.runT_eq, hrunE, GStep.bare_after, List.cons_append, List.nil_append]
    simp only [List.map_cons] at hev
    simp only [stepG.apply, Sem.runT_eq, if_true, GStep.bare_after]
    rw [hres _ hev]
    simp only [List.map_cons]
    rfl
  have hstep2 := step_leave_returned (P := P) (c := (⟨f, kd, none⟩ : Fr).at tm ((w.heap.size :: ds).map mark) (.inRangeFunc (w.heap.size + 1) :: k)) (cs := cs) hleave
  have hfin : ((⟨f, kd, none⟩ : Fr).at tm ((w.heap.size :: ds).map mark) (.inRangeFunc (w.heap.size + 1) :: k)).finish (.tuple #[]) =
      (⟨f, kd, none⟩ : Fr).at tm ((w.heap.size :: ds).map mark) (.endRangeFunc (w.heap.size + 1) :: k) := by simp [Frame.finish, Fr.at]
  rw [hfin] at hstep2
  cases done with
  | true =>
    simp only [if_true, I] at hL3'
    have hL4 : Holds (pobj (w.heap.size + 1) (lobj f tm ps asg body w.heap.size .ready none) :: (dblk w.heap.size :: (R ++ J N ++ M))) F w3 := by
      refine hL3'.perm ?_
      simp only [List.append_assoc, List.cons_append]
      refine List.perm_middle.trans (List.Perm.cons _ ?_)
      rw [← List.append_assoc, ← List.append_assoc]
      exact List.perm_middle
    obtain ⟨w4, hL5, hstep3⟩ := end_range (P := P) (k := k) (by simp) hL4 (b := ⟨f, kd, none⟩) (tm := tm) (dd := (w.heap.size :: ds).map mark) (cs := cs)
    obtain ⟨m', hst, hg⟩ := hdone w.heap.size F w4 hL5 (todoOk_cons hokt).2 tm cs hn hr
    exact ⟨m', .head hstep1 (Steps.trans hsteps (.head hstep2 (.head hstep3 hst))), hg⟩
  | false =>
    simp only [Bool.false_eq_true, if_false, XX] at hL3'
    have hL4 : Holds ((ex fun c => star (pobj (w.heap.size + 1) (lobj f tm ps asg body w.heap.size .done (some c))) (stars (pure' (codeOk n c = true) :: X c))) :: (R ++ dblk w.heap.size :: M)) F w3 := by
      refine hL3'.perm ?_
      simp only [List.append_assoc, List.cons_append, List.nil_append]
      exact List.perm_middle
    obtain ⟨c, hL5⟩ := Holds.ex.1 hL4
    have hL6 := Holds.star.1 hL5
    have hL7 : Holds (stars (pure' (codeOk n c = true) :: X c) :: pobj (w.heap.size + 1) (lobj f tm ps asg body w.heap.size .done (some c)) :: (R ++ dblk w.heap.size :: M)) F w3 :=
      hL6.perm (List.Perm.swap _ _ _)
    have hL8 := Holds.stars.1 hL7
    obtain ⟨hcok, hL9⟩ := Holds.pure.1 hL8
    have hL10 : Holds (pobj (w.heap.size + 1) (lobj f tm ps asg body w.heap.size .done (some c)) :: (dblk w.heap.size :: (R ++ X c ++ M))) F w3 := by
      refine hL9.perm ?_
      refine List.perm_middle.trans (List.Perm.cons _ ?_)
      refine List.Perm.trans (l₂ := X c ++ (dblk w.heap.size :: (R ++ M))) (List.Perm.append_left _ List.perm_middle) ?_
      refine List.perm_middle.trans (List.Perm.cons _ ?_)
      rw [← List.append_assoc]
      exact List.Perm.append_right _ List.perm_append_comm
    obtain ⟨w4, hL11, hstep3⟩ := end_range (P := P) (k := k) (by simp) hL10 (b := ⟨f, kd, none⟩) (tm := tm) (dd := (w.heap.size :: ds).map mark) (cs := cs)
    obtain ⟨m', hst, hg⟩ := hexit w.heap.size c F w4 hL11 (todoOk_mk hcok (todoOk_cons hokt).2) tm cs hn hr
    exact ⟨m', .head hstep1 (Steps.trans hsteps (.head hstep2 (.head hstep3 hst))), hg⟩
end
end Go.Eng
/- The engine, part 6: one rule for each kind of operation. -/
set_option linter.unusedVariables false
set_option linter.unusedSimpArgs false
namespace Go.Eng
open Go
theorem wrap64_id {z : Int} (h1 : -9223372036854775808 ≤ z) (h2 : z ≤ 9223372036854775807) : IntKind.i64.wrap z = z := by
  simp [IntKind.wrap, IntKind.bits, IntKind.signed]
  omega
theorem wrapu8_id {z : Int} (h1 : 0 ≤ z) (h2 : z ≤ 255) : IntKind.u8.wrap z = z := by
  simp [IntKind.wrap, IntKind.bits, IntKind.signed]
  omega
theorem int_beq (a c : Int) : (a == c) = decide (a = c) := by rw [Bool.eq_iff_iff]; simp
section
variable {P : Program} {ty t t' : TypeId} {l : List (Nat × Value)} {base : Env} {L M : List SL} {x y : Operand} {k k' : IntKind} {a c : Int}
theorem PureV.of {op : Op} {v : Value} (h : ∀ w, (execU (ev (look l base)) op ty).run P w = .ok (.value v) w) : PureV P op ty (look l base) v := h
theorem pv_move {v : Value} (hx : evO l x = some v) : PureV P (.move x) ty (look l base) v := fun w => by simp [execU, execOp, evO_ev hx]
theorem pv_assign {v : Value} (hx : evO l x = some v) : PureV P (.assign x) ty (look l base) v := fun w => by simp [execU, execOp, evO_ev hx]
theorem pv_pick_t {cd p q : Operand} {b : Bool} {v : Value} (hc : evO l cd = some (.bool b)) (hb : b = true) (hv : evO l p = some v) : PureV P (.pick cd p q) ty (look l base) v := fun w => by
  subst hb; simp [execU, execOp, evO_ev hc, evO_ev hv, asBool]
theorem pv_pick_f {cd p q : Operand} {b : Bool} {v : Value} (hc : evO l cd = some (.bool b)) (hb : b = false) (hv : evO l q = some v) : PureV P (.pick cd p q) ty (look l base) v := fun w => by
  subst hb; simp [execU, execOp, evO_ev hc, evO_ev hv, asBool]
theorem pv_nilCheck {p : Addr} (hx : evO l x = some (.pointer (some p))) : PureV P (.nilCheck x) ty (look l base) (.pointer (some p)) := fun w => by simp [execU, execOp, evO_ev hx]
theorem pv_extract {i : Nat} {vs : List Value} {v : Value} (hx : evO l x = some (.tuple vs.toArray)) (hi : vs[i]? = some v) : PureV P (.extract x i) ty (look l base) v := fun w => by
  simp [execU, execOp, evO_ev hx, Instr.extract, hi]
theorem pv_makeFunc {fn : Fn} {fs cs : Array Operand} {vs us : List Value} (hf : argsO l fs.toList = some vs) (hc : argsO l cs.toList = some us) :
    PureV P (.makeFunc fn fs cs) ty (look l base) (.func fn vs.toArray us.toArray) := fun w => by
  have h1 : fs.map (ev (look l base)) = vs.toArray := by
    apply Array.toList_inj.1; rw [Array.toList_map]; simpa using argsO_map (base := base) hf
  have h2 : cs.map (ev (look l base)) = us.toArray := by
    apply Array.toList_inj.1; rw [Array.toList_map]; simpa using argsO_map (base := base) hc
  simp [execU, execOp, Instr.makeFunc, h1, h2]
theorem pv_add (hx : evO l x = some (.int k a)) (hy : evO l y = some (.int k c)) : PureV P (.binOp .add t x y t') ty (look l base) (.int k (k.wrap (a + c))) := fun w => by
  simp [execU, execOp, evO_ev hx, evO_ev hy, eqGuard, binOp, Op.intArith]
theorem pv_sub (hx : evO l x = some (.int k a)) (hy : evO l y = some (.int k c)) : PureV P (.binOp .sub t x y t') ty (look l base) (.int k (k.wrap (a - c))) := fun w => by
  simp [execU, execOp, evO_ev hx, evO_ev hy, eqGuard, binOp, Op.intArith]
theorem pv_mul (hx : evO l x = some (.int k a)) (hy : evO l y = some (.int k c)) : PureV P (.binOp .mul t x y t') ty (look l base) (.int k (k.wrap (a * c))) := fun w => by
  simp [execU, execOp, evO_ev hx, evO_ev hy, eqGuard, binOp, Op.intArith]
theorem pv_quo (hx : evO l x = some (.int k a)) (hy : evO l y = some (.int k c)) (h0 : c ≠ 0) : PureV P (.binOp .quo t x y t') ty (look l base) (.int k (k.wrap (a.tdiv c))) := fun w => by
  simp [execU, execOp, evO_ev hx, evO_ev hy, eqGuard, binOp, Op.intDiv, h0]
theorem pv_rem (hx : evO l x = some (.int k a)) (hy : evO l y = some (.int k c)) (h0 : c ≠ 0) : PureV P (.binOp .rem t x y t') ty (look l base) (.int k (a.tmod c)) := fun w => by
  simp [execU, execOp, evO_ev hx, evO_ev hy, eqGuard, binOp, Op.intDiv, h0]
theorem pv_addI (hx : evO l x = some (.int .i64 a)) (hy : evO l y = some (.int .i64 c)) (h1 : -9223372036854775808 ≤ a + c) (h2 : a + c ≤ 9223372036854775807) :
    PureV P (.binOp .add t x y t') ty (look l base) (.int .i64 (a + c)) := fun w => by rw [pv_add hx hy w, wrap64_id h1 h2]
theorem pv_subI (hx : evO l x = some (.int .i64 a)) (hy : evO l y = some (.int .i64 c)) (h1 : -9223372036854775808 ≤ a - c) (h2 : a - c ≤ 9223372036854775807) :
    PureV P (.binOp .sub t x y t') ty (look l base) (.int .i64 (a - c)) := fun w => by rw [pv_sub hx hy w, wrap64_id h1 h2]
theorem pv_mulI (hx : evO l x = some (.int .i64 a)) (hy : evO l y = some (.int .i64 c)) (h1 : -9223372036854775808 ≤ a * c) (h2 : a * c ≤ 9223372036854775807) :
    PureV P (.binOp .mul t x y t') ty (look l base) (.int .i64 (a * c)) := fun w => by rw [pv_mul hx hy w, wrap64_id h1 h2]
theorem pv_quoI (hx : evO l x = some (.int .i64 a)) (hy : evO l y = some (.int .i64 c)) (h0 : 0 ≤ a) (h1 : 0 < c) (h2 : a ≤ 9223372036854775807) :
    PureV P (.binOp .quo t x y t') ty (look l base) (.int .i64 (a / c)) := fun w => by
  rw [pv_quo hx hy (by omega) w, Int.tdiv_eq_ediv_of_nonneg h0]
  have h3 : 0 ≤ a / c := Int.ediv_nonneg h0 (by omega)
  have h4 : a / c ≤ a := Int.ediv_le_self c h0
  rw [wrap64_id (by omega) (by omega)]
theorem pv_remI (hx : evO l x = some (.int .i64 a)) (hy : evO l y = some (.int .i64 c)) (h0 : 0 ≤ a) (h1 : 0 < c) :
    PureV P (.binOp .rem t x y t') ty (look l base) (.int .i64 (a % c)) := fun w => by
  rw [pv_rem hx hy (by omega) w, Int.tmod_eq_emod_of_nonneg h0]
def bitw (f : BitVec 64 → BitVec 64 → BitVec 64) (a c : Int) : Int := IntKind.i64.wrap (f (BitVec.ofInt 64 a) (BitVec.ofInt 64 c)).toNat
def bitk (k : IntKind) (f : {n : Nat} → BitVec n → BitVec n → BitVec n) (a c : Int) : Int := k.wrap (f (BitVec.ofInt k.bits a) (BitVec.ofInt k.bits c)).toNat
theorem pv_and (hx : evO l x = some (.int k a)) (hy : evO l y = some (.int k c)) : PureV P (.binOp .and t x y t') ty (look l base) (.int k (bitk k (· &&& ·) a c)) := fun w => by
  simp [execU, execOp, evO_ev hx, evO_ev hy, eqGuard, binOp, Op.intBits, bitk]
theorem pv_or (hx : evO l x = some (.int k a)) (hy : evO l y = some (.int k c)) : PureV P (.binOp .or t x y t') ty (look l base) (.int k (bitk k (· ||| ·) a c)) := fun w => by
  simp [execU, execOp, evO_ev hx, evO_ev hy, eqGuard, binOp, Op.intBits, bitk]
theorem pv_xor (hx : evO l x = some (.int k a)) (hy : evO l y = some (.int k c)) : PureV P (.binOp .xor t x y t') ty (look l base) (.int k (bitk k (· ^^^ ·) a c)) := fun w => by
  simp [execU, execOp, evO_ev hx, evO_ev hy, eqGuard, binOp, Op.intBits, bitk]
theorem pv_shl (hx : evO l x = some (.int k a)) (hy : evO l y = some (.int k' c)) (h0 : 0 ≤ c) : PureV P (.binOp .shl t x y t') ty (look l base) (.int k (k.wrap (a * 2 ^ min c.toNat k.bits))) := fun w => by
  simp [execU, execOp, evO_ev hx, evO_ev hy, eqGuard, binOp, Op.shift, show ¬ c < 0 by omega]
theorem pv_shr (hx : evO l x = some (.int k a)) (hy : evO l y = some (.int k' c)) (h0 : 0 ≤ c) : PureV P (.binOp .shr t x y t') ty (look l base) (.int k (a.fdiv (2 ^ min c.toNat k.bits))) := fun w => by
  simp [execU, execOp, evO_ev hx, evO_ev hy, eqGuard, binOp, Op.shift, show ¬ c < 0 by omega]
theorem pv_shrI (hx : evO l x = some (.int .i64 a)) (hy : evO l y = some (.int k' c)) (h0 : 0 ≤ c) (h1 : c ≤ 64) : PureV P (.binOp .shr t x y t') ty (look l base) (.int .i64 (a / 2 ^ c.toNat)) := fun w => by
  rw [pv_shr hx hy h0 w]
  have : min c.toNat IntKind.i64.bits = c.toNat := by simp [IntKind.bits]; omega
  rw [this, Int.fdiv_eq_ediv_of_nonneg _ (Int.pow_nonneg (by omega))]
theorem pv_shlI (hx : evO l x = some (.int .i64 a)) (hy : evO l y = some (.int k' c)) (h0 : 0 ≤ c) (h1 : c ≤ 64) (h2 : -9223372036854775808 ≤ a * 2 ^ c.toNat) (h3 : a * 2 ^ c.toNat ≤ 9223372036854775807) :
    PureV P (.binOp .shl t x y t') ty (look l base) (.int .i64 (a * 2 ^ c.toNat)) := fun w => by
  rw [pv_shl hx hy h0 w]
  have : min c.toNat IntKind.i64.bits = c.toNat := by simp [IntKind.bits]; omega
  rw [this, wrap64_id h2 h3]
theorem pv_lss (hx : evO l x = some (.int k a)) (hy : evO l y = some (.int k c)) : PureV P (.binOp .lss t x y t') ty (look l base) (.bool (decide (a < c))) := fun w => by
  simp [execU, execOp, evO_ev hx, evO_ev hy, eqGuard, binOp, Op.intCmp]
theorem pv_leq (hx : evO l x = some (.int k a)) (hy : evO l y = some (.int k c)) : PureV P (.binOp .leq t x y t') ty (look l base) (.bool (decide (a ≤ c))) := fun w => by
  simp [execU, execOp, evO_ev hx, evO_ev hy, eqGuard, binOp, Op.intCmp]
theorem pv_gtr (hx : evO l x = some (.int k a)) (hy : evO l y = some (.int k c)) : PureV P (.binOp .gtr t x y t') ty (look l base) (.bool (decide (c < a))) := fun w => by
  simp [execU, execOp, evO_ev hx, evO_ev hy, eqGuard, binOp, Op.intCmp]
theorem pv_geq (hx : evO l x = some (.int k a)) (hy : evO l y = some (.int k c)) : PureV P (.binOp .geq t x y t') ty (look l base) (.bool (decide (c ≤ a))) := fun w => by
  simp [execU, execOp, evO_ev hx, evO_ev hy, eqGuard, binOp, Op.intCmp]
theorem pv_eql (hx : evO l x = some (.int k a)) (hy : evO l y = some (.int k c)) : PureV P (.binOp .eql t x y t') ty (look l base) (.bool (decide (a = c))) := fun w => by
  have h : eqGuard .eql t x y (.int k a) (.int k c) = pure () := by simp [eqGuard]
  simp [execU, execOp, evO_ev hx, evO_ev hy, h, binOp, Op.intCmp, int_beq]
theorem pv_neq (hx : evO l x = some (.int k a)) (hy : evO l y = some (.int k c)) : PureV P (.binOp .neq t x y t') ty (look l base) (.bool (decide (a ≠ c))) := fun w => by
  have h : eqGuard .neq t x y (.int k a) (.int k c) = pure () := by simp [eqGuard]
  simp [execU, execOp, evO_ev hx, evO_ev hy, h, binOp, Op.intCmp, bne, int_beq]
theorem pv_not {b : Bool} (hx : evO l x = some (.bool b)) : PureV P (.unOp .not t x) ty (look l base) (.bool (!b)) := fun w => by
  simp [execU, execOp, evO_ev hx, Op.unary]
theorem pv_convert {ds : TypeDesc} (hs : ∀ w, (underlying t).run P w = .ok ds w) (hd : ∀ w, (underlying t').run P w = .ok (.int k') w) (hx : evO l x = some (.int k a)) :
    PureV P (.convert t t' x) ty (look l base) (.int k' (k'.wrap a)) := fun w => by
  simp [execU, execOp, evO_ev hx, convert, hs, hd, Conv.intToInt]
theorem pv_neq_s {s u : ByteArray} (hx : evO l x = some (.string s)) (hy : evO l y = some (.string u)) : PureV P (.binOp .neq t x y t') ty (look l base) (.bool (!(s.toList == u.toList))) := fun w => by
  have h : eqGuard .neq t x y (.string s) (.string u) = pure () := by simp [eqGuard]
  simp [execU, execOp, evO_ev hx, evO_ev hy, h, binOp, Op.stringOp]
theorem pv_len {T e : TypeId} {p : Option Addr} {n cp : Nat} (hU : ∀ w, (underlying T).run P w = .ok (.slice e) w) (hx : evO l x = some (.slice p n cp)) :
    PureV P (.call ⟨.builtin .len, #[x], #[T]⟩) ty (look l base) (.int .i64 n) := fun w => by
  simp [execU, execOp, resolve, invoke, builtin, Builtin.len_, evO_ev hx, hU, goInt]
theorem pv_min {tys : Array TypeId} (hx : evO l x = some (.int k a)) (hy : evO l y = some (.int k' c)) : PureV P (.call ⟨.builtin .min, #[x, y], tys⟩) ty (look l base) (.int k (if c < a then c else a)) := fun w => by
  simp [execU, execOp, resolve, invoke, builtin, Builtin.min_, Builtin.min2, evO_ev hx, evO_ev hy, List.foldlM]
theorem pv_max {tys : Array TypeId} (hx : evO l x = some (.int k a)) (hy : evO l y = some (.int k' c)) : PureV P (.call ⟨.builtin .max, #[x, y], tys⟩) ty (look l base) (.int k (if c > a then c else a)) := fun w => by
  simp [execU, execOp, resolve, invoke, builtin, Builtin.max_, Builtin.max2, evO_ev hx, evO_ev hy, List.foldlM]
theorem pv_minI {tys : Array TypeId} (hx : evO l x = some (.int .i64 a)) (hy : evO l y = some (.int .i64 c)) : PureV P (.call ⟨.builtin .min, #[x, y], tys⟩) ty (look l base) (.int .i64 (min a c)) := fun w => by
  rw [pv_min hx hy w]; congr 2; congr 1; split <;> omega
theorem pv_maxI {tys : Array TypeId} (hx : evO l x = some (.int .i64 a)) (hy : evO l y = some (.int .i64 c)) : PureV P (.call ⟨.builtin .max, #[x, y], tys⟩) ty (look l base) (.int .i64 (max a c)) := fun w => by
  rw [pv_max hx hy w]; congr 2; congr 1; split <;> omega
theorem add_off (r o m : Nat) : (⟨r, o, none⟩ : Addr).add m = ⟨r, o + m, none⟩ := by
  unfold Addr.add
  split
  · rename_i h; subst h; rfl
  · rfl
theorem pv_fieldAddr {S f r o sz : Nat} {fs : Array Field} {fd : Field} (hU : ∀ w, (underlying S).run P w = .ok (.struct fs) w) (hf : fs.toList[f]? = some fd) (hz : ∀ w, (sizeOf fd.type).run P w = .ok sz w) (hz0 : (Nat.beq sz 0) = false)
    (hx : evO l x = some (.pointer (some ⟨r, o, none⟩))) : PureV P (.fieldAddr S x f) ty (look l base) (.pointer (some ⟨r, o + fd.offset, none⟩)) := fun w => by
  have hf' : fs[f]? = some fd := by simpa using hf
  have h0 : sz ≠ 0 := by intro h; subst h; simp at hz0
  simp [execU, execOp, Instr.fieldAt, hU, hf', evO_ev hx, Instr.sureAddr, fieldPlace, hz, h0, add_off]
theorem pv_indexAddr {T e r o n cp sz : Nat} {i : Int} (hU : ∀ w, (underlying T).run P w = .ok (.slice e) w) (hz : ∀ w, (sizeOf e).run P w = .ok sz w)
    (hx : evO l x = some (.slice (some ⟨r, o, none⟩) n cp)) (hy : evO l y = some (.int k i)) (h0 : 0 ≤ i) (h1 : i < n) :
    PureV P (.indexAddr T x y) ty (look l base) (.pointer (some ⟨r, o + i.toNat * sz, none⟩)) := fun w => by
  simp [execU, execOp, Instr.indexAt, evO_ev hx, evO_ev hy, asIntOf, hU, h0, h1, hz, add_off]
theorem pv_indexAddr_a {T e r o n sz : Nat} {i : Int} (hU : ∀ w, (underlying T).run P w = .ok (.array n e) w) (hz : ∀ w, (sizeOf e).run P w = .ok sz w)
    (hx : evO l x = some (.pointer (some ⟨r, o, none⟩))) (hy : evO l y = some (.int k i)) (h0 : 0 ≤ i) (h1 : i < n) :
    PureV P (.indexAddr T x y) ty (look l base) (.pointer (some ⟨r, o + i.toNat * sz, none⟩)) := fun w => by
  simp [execU, execOp, Instr.indexAt, evO_ev hx, evO_ev hy, asIntOf, hU, h0, h1, hz, add_off, Instr.sureAddr]
def sliceAddr (p : Option Addr) (lo m sz : Nat) : Option Addr := if m = lo then p else p.map (·.add (lo * sz))
theorem pv_slice {T e n cp sz : Nat} {p : Option Addr} {lo hi : Option Operand} {i j : Int} (hU : ∀ w, (underlying T).run P w = .ok (.slice e) w) (hz : ∀ w, (sizeOf e).run P w = .ok sz w)
    (hx : evO l x = some (.slice p n cp)) (hlo : (match lo with | none => some (.int .i64 0) | some z => evO l z) = some (.int k i)) (hhi : (match hi with | none => some (.int .i64 n) | some z => evO l z) = some (.int k' j))
    (h0 : 0 ≤ i) (h1 : i ≤ j) (h2 : j ≤ cp) (h3 : n ≤ cp) :
    PureV P (.slice T x lo hi none) ty (look l base) (.slice (sliceAddr p i.toNat cp sz) (j.toNat - i.toNat) (cp - i.toNat)) := fun w => by
  have hb : (Instr.sliceBounds true n cp (lo.map (ev (look l base))) (hi.map (ev (look l base))) none).run P w = .ok (i.toNat, j.toNat, cp) w := by
    cases hi with
    | none =>
      simp only [Option.some.injEq, Value.int.injEq] at hhi
      obtain ⟨_, rfl⟩ := hhi
      cases lo with
      | none =>
        simp only [Option.some.injEq, Value.int.injEq] at hlo
        obtain ⟨_, rfl⟩ := hlo
        simp [Instr.sliceBounds]
      | some z =>
        simp [Instr.sliceBounds, Instr.sliceBound, evO_ev hlo, asIntOf, h0, h1]
    | some z' =>
      have e1 : 0 ≤ j := by omega
      cases lo with
      | none =>
        simp only [Option.some.injEq, Value.int.injEq] at hlo
        obtain ⟨_, rfl⟩ := hlo
        simp [Instr.sliceBounds, Instr.sliceBound, evO_ev hhi, asIntOf, e1, h2]
      | some z =>
        have e2 : i ≤ max j 0 := by omega
        simp [Instr.sliceBounds, Instr.sliceBound, evO_ev hlo, evO_ev hhi, asIntOf, h0, h2, e1, e2]
  simp only [execU, execOp, Instr.sliceAt, Sem.run_bind, hU, Result.andThen_ok, Instr.slice, evO_ev hx, Option.map_none, hb, hz, Sem.run_pure]
  rfl
end
def takeL : Nat → List Value → Option (List Value)
  | 0, _ => some []
  | _ + 1, [] => none
  | n + 1, c :: cs => match takeL n cs with
    | some r => some (c :: r)
    | none => none
def cellsFrom : Nat → List Value → Nat → Option (List Value)
  | 0, cs, n => takeL n cs
  | _ + 1, [], _ => none
  | o + 1, _ :: cs, n => cellsFrom o cs n
def cellsAt (cs : List Value) (o n : Nat) : Option (List Value) := cellsFrom o cs n
def putL : List Value → List Value → Option (List Value)
  | [], cs => some cs
  | _ :: _, [] => none
  | v :: vs, _ :: cs => match putL vs cs with
    | some r => some (v :: r)
    | none => none
def putFrom : Nat → List Value → List Value → Option (List Value)
  | 0, cs, vs => putL vs cs
  | _ + 1, [], _ => none
  | o + 1, c :: cs, vs => match putFrom o cs vs with
    | some r => some (c :: r)
    | none => none
def setC (cs : List Value) (o : Nat) (vs : List Value) : Option (List Value) := putFrom o cs vs
theorem pt_block {r t : Nat} {cs : List Value} {L : List SL} {F : Fm} {w : World} (h : Holds (pt r t cs :: L) F w) : w.heap[r]? = some (.cells cs.toArray t (0, 0)) := Holds.obj h
theorem pt_cell {r t o : Nat} {cs : List Value} {v : Value} {L : List SL} {F : Fm} {w : World} (h : Holds (pt r t cs :: L) F w) (hc : cs[o]? = some v) : w.cell? ⟨r, o, none⟩ = some v := by
  simp [World.cell?, pt_block h, hc]
theorem pt_frozen {r t o : Nat} {cs : List Value} {L : List SL} {F : Fm} {w : World} (h : Holds (pt r t cs :: L) F w) : w.frozen? ⟨r, o, none⟩ = false := by
  simp [World.frozen?, pt_block h]
theorem run_load_cell {P : Program} {w : World} {p : Addr} {v : Value} (h : w.cell? p = some v) : (load p).run P w = .ok v w := by
  simp [load, Sem.run, h]
theorem run_loadCellsFrom {P : Program} {w : World} {r o : Nat} {cs : List Value} (hb : ∀ i v, cs[i]? = some v → w.cell? ⟨r, o + i, none⟩ = some v) :
    ∀ (n i : Nat) (acc : Array Value), i + n ≤ cs.length → (loadCellsFrom ⟨r, o, none⟩ i n acc).run P w = .ok (acc ++ ((cs.drop i).take n).toArray) w := by
  intro n
  induction n with
  | zero => intro i acc h; simp [loadCellsFrom]
  | succ n ih =>
    intro i acc h
    have hi : i < cs.length := by omega
    simp only [loadCellsFrom, Sem.run_bind, add_off]
    rw [run_load_cell (hb i cs[i] (by simp [hi]))]
    simp only [Result.andThen_ok]
    rw [ih (i + 1) _ (by omega)]
    congr 1
    rw [List.drop_eq_getElem_cons hi, List.take_succ_cons]
    simp
theorem takeL_spec : ∀ {n : Nat} {cs vs : List Value}, takeL n cs = some vs → vs = cs.take n ∧ n ≤ cs.length := by
  intro n
  induction n with
  | zero => intro cs vs h; simp [takeL] at h; subst h; simp
  | succ n ih =>
    intro cs vs h
    cases cs with
    | nil => simp [takeL] at h
    | cons c cs =>
      simp only [takeL] at h
      obtain ⟨us, h1, rfl⟩ : ∃ us, takeL n cs = some us ∧ c :: us = vs := by
        cases h1 : takeL n cs with
        | none => rw [h1] at h; cases h
        | some us => rw [h1] at h; exact ⟨us, rfl, Option.some.inj h⟩
      obtain ⟨h2, h3⟩ := ih h1
      subst h2
      simp; omega
theorem cellsAt_spec {cs : List Value} {o n : Nat} {vs : List Value} (h : cellsAt cs o n = some vs) : vs = (cs.drop o).take n ∧ o + n ≤ cs.length := by
  have key : ∀ (o : Nat) (cs : List Value), cellsFrom o cs n = some vs → vs = (cs.drop o).take n ∧ o + n ≤ cs.length := by
    intro o
    induction o with
    | zero => intro cs h; have := takeL_spec h; simpa using this
    | succ o ih =>
      intro cs h
      cases cs with
      | nil => simp [cellsFrom] at h
      | cons c cs =>
        obtain ⟨h2, h3⟩ := ih cs h
        simp at h3 ⊢
        exact ⟨h2, by omega⟩
  exact key o cs h
section
variable {P : Program} {ty t t' : TypeId} {l : List (Nat × Value)} {base : Env} {L M : List SL} {x y : Operand} {k k' : IntKind} {a c : Int} {K : Value → List SL → Prop}
theorem rv_load {r o T : Nat} {cs : List Value} {v : Value} (hA : ∀ w, (isAgg t).run P w = .ok false w) (hx : evO l x = some (.pointer (some ⟨r, o, none⟩))) (hp : Pick (pt r T cs) L M) (hc : cs[o]? = some v) :
    ReadV P (.load t x) ty (look l base) L v := fun F w hw => by
  have h := pt_cell (hw.perm hp.perm) hc
  simp [execU, execOp, Instr.loadAt, evO_ev hx, Instr.sureAddr, loadVar, hA, h]
theorem rv_load_agg {r o T sz : Nat} {cs vs : List Value} (hA : ∀ w, (isAgg t).run P w = .ok true w) (hz : ∀ w, (sizeOf t).run P w = .ok sz w) (hx : evO l x = some (.pointer (some ⟨r, o, none⟩))) (hp : Pick (pt r T cs) L M)
    (hc : cellsAt cs o sz = some vs) : ReadV P (.load t x) ty (look l base) L (.agg vs.toArray) := fun F w hw => by
  obtain ⟨rfl, hlen⟩ := cellsAt_spec hc
  have hb := hw.perm hp.perm
  have h := run_loadCellsFrom (P := P) (w := w) (r := r) (o := o) (cs := cs.drop o) (fun i v hv => pt_cell hb (by rw [List.getElem?_drop] at hv; exact hv)) sz 0 #[] (by simp; omega)
  simp [execU, execOp, Instr.loadAt, evO_ev hx, Instr.sureAddr, loadVar, hA, hz, loadCells]
  rw [h]
  simp
def one? : Value → Bool
  | .agg _ | .tuple _ => false
  | _ => true
theorem one_cells {v : Value} (h : one? v = true) : v.cells = #[v] := by cases v <;> simp [one?, Value.cells] at h ⊢
theorem run_store_cell {w : World} {p : Addr} {v u : Value} (h1 : one? v = true) (h : w.cell? p = some u) (hf : w.frozen? p = false) : (store p v).run P w = .ok () (w.setCell p v) := by
  cases v <;> simp [one?] at h1 <;> simp [store, Sem.run, h, hf]
theorem setCell_heap {w : World} {r o T : Nat} {cs : List Value} {v : Value} (h : w.heap[r]? = some (.cells cs.toArray T (0, 0))) :
    (w.setCell ⟨r, o, none⟩ v).heap[r]? = some (.cells (cs.set o v).toArray T (0, 0)) := by
  simp only [World.setCell]
  rw [Array.getElem?_modify]
  simp [h]
theorem setCell_other {w : World} {r o r' : Nat} {v : Value} (h : r' ≠ r) : (w.setCell ⟨r, o, none⟩ v).heap[r']? = w.heap[r']? := by
  simp only [World.setCell]
  rw [Array.getElem?_modify, if_neg (fun e => h e.symm)]
theorem run_storeCells {r T : Nat} {L : List SL} {F : Fm} : ∀ (vs : List Value) (o i : Nat) (cs : List Value) (w : World), (∀ v ∈ vs, one? v = true) → o + i + vs.length ≤ cs.length → Holds (pt r T cs :: L) F w →
    ∃ w', (storeCells ⟨r, o, none⟩ vs i).run P w = .ok () w' ∧ Holds (pt r T (cs.take (o + i) ++ vs ++ cs.drop (o + i + vs.length)) :: L) F w' := by
  intro vs
  induction vs with
  | nil => intro o i cs w _ _ hw; exact ⟨w, by simp [storeCells], by simpa using hw⟩
  | cons v vs ih =>
    intro o i cs w h1 hlen hw
    simp only [List.length_cons] at hlen
    have hlt : o + i < cs.length := by omega
    have hcell := pt_cell (o := o + i) hw (v := cs[o + i]) (by simp [hlt])
    have hrun := run_store_cell (P := P) (h1 v (List.mem_cons_self)) hcell (pt_frozen hw)
    have hw1 : Holds (pt r T (cs.set (o + i) v) :: L) F (w.setCell ⟨r, o + i, none⟩ v) :=
      hw.setObj ⟨rfl, rfl⟩ (setCell_heap (pt_block hw)) (fun r' hr' => setCell_other hr')
    obtain ⟨w', h2, h3⟩ := ih o (i + 1) _ _ (fun u hu => h1 u (List.mem_cons_of_mem _ hu)) (by simp; omega) hw1
    refine ⟨w', ?_, ?_⟩
    · simp only [storeCells, Sem.run_bind, add_off, hrun, Result.andThen_ok]
      exact h2
    · have e : List.take (o + (i + 1)) (cs.set (o + i) v) ++ vs ++ List.drop (o + (i + 1) + vs.length) (cs.set (o + i) v) = List.take (o + i) cs ++ (v :: vs) ++ List.drop (o + i + (v :: vs).length) cs := by
        have e1 : o + (i + 1) = (o + i) + 1 := by omega
        have e2 : o + (i + 1) + vs.length = (o + i) + (vs.length + 1) := by omega
        rw [e2, e1, List.length_cons]
        have h4 : List.take (o + i + 1) (cs.set (o + i) v) = List.take (o + i) cs ++ [v] := by
          rw [List.take_succ_eq_append_getElem (by simpa using hlt), List.take_set_of_le (Nat.le_refl _)]
          simp
        have h5 : List.drop (o + i + (vs.length + 1)) (cs.set (o + i) v) = List.drop (o + i + (vs.length + 1)) cs := by
          rw [List.drop_set_of_lt (by omega)]
        rw [h4, h5]
        simp
      rw [e] at h3
      exact h3
theorem putL_spec : ∀ {vs cs cs' : List Value}, putL vs cs = some cs' → vs.length ≤ cs.length ∧ cs' = vs ++ cs.drop vs.length := by
  intro vs
  induction vs with
  | nil => intro cs cs' h; simp [putL] at h; subst h; simp
  | cons v vs ih =>
    intro cs cs' h
    cases cs with
    | nil => simp [putL] at h
    | cons c cs =>
      simp only [putL] at h
      obtain ⟨us, h1, rfl⟩ : ∃ us, putL vs cs = some us ∧ v :: us = cs' := by
        cases h1 : putL vs cs with
        | none => rw [h1] at h; cases h
        | some us => rw [h1] at h; exact ⟨us, rfl, Option.some.inj h⟩
      obtain ⟨h2, h3⟩ := ih h1
      subst h3
      simp; omega
theorem setC_spec {cs : List Value} {o : Nat} {vs cs' : List Value} (h : setC cs o vs = some cs') : o + vs.length ≤ cs.length ∧ cs' = cs.take o ++ vs ++ cs.drop (o + vs.length) := by
  have key : ∀ (o : Nat) (cs cs' : List Value), putFrom o cs vs = some cs' → o + vs.length ≤ cs.length ∧ cs' = cs.take o ++ vs ++ cs.drop (o + vs.length) := by
    intro o
    induction o with
    | zero => intro cs cs' h; have := putL_spec h; simpa using this
    | succ o ih =>
      intro cs cs' h
      cases cs with
      | nil => simp [putFrom] at h
      | cons c cs =>
        simp only [putFrom] at h
        obtain ⟨us, h1, rfl⟩ : ∃ us, putFrom o cs vs = some us ∧ c :: us = cs' := by
          cases h1 : putFrom o cs vs with
          | none => rw [h1] at h; cases h
          | some us => rw [h1] at h; exact ⟨us, rfl, Option.some.inj h⟩
        obtain ⟨h2, h3⟩ := ih cs us h1
        have e : o + 1 + vs.length = o + vs.length + 1 := by omega
        subst h3
        simp [e]
        omega
  exact key o cs cs' h
theorem ef_store {r o T : Nat} {cs cs' : List Value} {v : Value} (hz : ∀ w, (sizeOf t).run P w = .ok 1 w) (hx : evO l x = some (.pointer (some ⟨r, o, none⟩))) (hy : evO l y = some v) (h1 : one? v = true)
    (hp : Pick (pt r T cs) L M) (hc : setC cs o [v] = some cs') (hk : K undef (pt r T cs' :: M)) : EffT P (.store t x y) ty (look l base) L K := by
  intro F w hw
  obtain ⟨hlen, rfl⟩ := setC_spec hc
  obtain ⟨w', h2, h3⟩ := run_storeCells (P := P) [v] o 0 cs w (by simpa using h1) (by simpa using hlen) (hw.perm hp.perm)
  have hrun : (execU (ev (look l base)) (.store t x y) ty).run P w = .ok .skip w' := by
    simp [execU, execOp, Instr.storeAt, evO_ev hx, evO_ev hy, Instr.sureAddr, storeVar, hz, one_cells h1, h2]
  rw [hrun]
  exact ⟨fun hq => by simp [quietOp] at hq, _, hk, by simpa using h3⟩
theorem ef_store_s {r o T : Nat} {cs : List Value} {v : Value} (hz : ∀ w, (sizeOf t).run P w = .ok 1 w) (hx : evO l x = some (.pointer (some ⟨r, o, none⟩))) (hy : evO l y = some v) (h1 : one? v = true)
    (hp : Pick (pt r T cs) L M) (hc : o < cs.length) (hk : K undef (pt r T (cs.set o v) :: M)) : EffT P (.store t x y) ty (look l base) L K := by
  intro F w hw
  obtain ⟨w', h2, h3⟩ := run_storeCells (P := P) [v] o 0 cs w (by simpa using h1) (by simp; omega) (hw.perm hp.perm)
  have hrun : (execU (ev (look l base)) (.store t x y) ty).run P w = .ok .skip w' := by
    simp [execU, execOp, Instr.storeAt, evO_ev hx, evO_ev hy, Instr.sureAddr, storeVar, hz, one_cells h1, h2]
  rw [hrun]
  refine ⟨fun hq => by simp [quietOp] at hq, _, hk, ?_⟩
  rw [List.set_eq_take_append_cons_drop, if_pos hc]
  simpa using h3
theorem ef_store_agg {r o T sz : Nat} {cs cs' vs : List Value} (hz : ∀ w, (sizeOf t).run P w = .ok sz w) (hx : evO l x = some (.pointer (some ⟨r, o, none⟩))) (hy : evO l y = some (.agg vs.toArray)) (h1 : (vs.all one? && vs.length == sz) = true)
    (hp : Pick (pt r T cs) L M) (hc : setC cs o vs = some cs') (hk : K undef (pt r T cs' :: M)) : EffT P (.store t x y) ty (look l base) L K := by
  intro F w hw
  simp only [Bool.and_eq_true, beq_iff_eq, List.all_eq_true] at h1
  obtain ⟨hlen, rfl⟩ := setC_spec hc
  obtain ⟨w', h2, h3⟩ := run_storeCells (P := P) vs o 0 cs w h1.1 (by simpa using hlen) (hw.perm hp.perm)
  have hrun : (execU (ev (look l base)) (.store t x y) ty).run P w = .ok .skip w' := by
    simp [execU, execOp, Instr.storeAt, evO_ev hx, evO_ev hy, Instr.sureAddr, storeVar, hz, Value.cells, h1.2, h2]
  rw [hrun]
  exact ⟨fun hq => by simp [quietOp] at hq, _, hk, by simpa using h3⟩
theorem ef_store_agg_s {r o T sz : Nat} {cs vs : List Value} (hz : ∀ w, (sizeOf t).run P w = .ok sz w) (hx : evO l x = some (.pointer (some ⟨r, o, none⟩))) (hy : evO l y = some (.agg vs.toArray)) (h1 : ∀ v ∈ vs, one? v = true) (h2 : vs.length = sz)
    (hp : Pick (pt r T cs) L M) (hc : o + vs.length ≤ cs.length) (hk : K undef (pt r T (cs.take o ++ vs ++ cs.drop (o + vs.length)) :: M)) : EffT P (.store t x y) ty (look l base) L K := by
  intro F w hw
  obtain ⟨w', h3, h4⟩ := run_storeCells (P := P) vs o 0 cs w h1 (by simpa using hc) (hw.perm hp.perm)
  have hrun : (execU (ev (look l base)) (.store t x y) ty).run P w = .ok .skip w' := by
    simp [execU, execOp, Instr.storeAt, evO_ev hx, evO_ev hy, Instr.sureAddr, storeVar, hz, Value.cells, h2, h3]
  rw [hrun]
  exact ⟨fun hq => by simp [quietOp] at hq, _, hk, by simpa using h4⟩
theorem grow_push (w : World) (o : Obj) : Grow w { w with heap := w.heap.push o } := by
  refine ⟨⟨rfl, rfl⟩, ?_⟩
  intro r u hu
  show (w.heap.push o)[r]? = some u
  obtain ⟨hlt, _⟩ := Array.getElem?_eq_some_iff.1 hu
  rw [Array.getElem?_push, if_neg (by omega)]; exact hu
def cellsL : Value → List Value
  | .agg cs => cs.toList
  | v => [v]
theorem cellsL_cells (v : Value) : v.cells = (cellsL v).toArray := by cases v <;> simp [Value.cells, cellsL]
theorem ef_alloc {e : Nat} {z : Value} {cs : List Value} (hZ : ∀ w, (zeroValue e).run P w = .ok z w) (hc : cellsL z = cs) (hk : ∀ r, K (.pointer (some ⟨r, 0, none⟩)) (pt r e cs :: L)) : EffT P (.alloc e) ty (look l base) L K := by
  subst hc
  intro F w hw
  have hrun : (execU (ev (look l base)) (.alloc e) ty).run P w = .ok (.value (.pointer (some ⟨w.heap.size, 0, none⟩))) { w with heap := w.heap.push (.cells (cellsL z).toArray e) } := by
    simp [execU, execOp, Instr.alloc, hZ, newVar, newRow, cellsL_cells]
  rw [hrun]
  exact ⟨fun _ => grow_push _ _, _, hk _, hw.alloc ⟨rfl, rfl⟩ rfl⟩
theorem ef_box {e : Nat} {v : Value} {cs : List Value} (hx : evO l x = some v) (hc : cellsL v = cs) (hk : ∀ r, K (.pointer (some ⟨r, 0, none⟩)) (pt r e cs :: L)) : EffT P (.box e x) ty (look l base) L K := by
  subst hc
  intro F w hw
  have hrun : (execU (ev (look l base)) (.box e x) ty).run P w = .ok (.value (.pointer (some ⟨w.heap.size, 0, none⟩))) { w with heap := w.heap.push (.cells (cellsL v).toArray e) } := by
    simp [execU, execOp, Instr.box, newVar, newRow, cellsL_cells, evO_ev hx]
  rw [hrun]
  exact ⟨fun _ => grow_push _ _, _, hk _, hw.alloc ⟨rfl, rfl⟩ rfl⟩
def zerosL (zs : List Value) : Nat → List Value
  | 0 => []
  | n + 1 => zs ++ zerosL zs n
theorem zerosL_length (zs : List Value) (n : Nat) : (zerosL zs n).length = n * zs.length := by
  induction n with
  | zero => simp [zerosL]
  | succ n ih => simp [zerosL, ih, Nat.succ_mul]; omega
theorem zerosL_getElem? (zs : List Value) : ∀ (n i : Nat), i < n * zs.length → (zerosL zs n)[i]? = zs[i % zs.length]? := by
  intro n
  induction n with
  | zero => intro i h; omega
  | succ n ih =>
    intro i h
    simp only [zerosL]
    by_cases hi : i < zs.length
    · rw [List.getElem?_append_left hi, Nat.mod_eq_of_lt hi]
    · rw [List.getElem?_append_right (by omega), ih (i - zs.length) (by rw [Nat.succ_mul] at h; omega)]
      congr 1
      rw [← Nat.mod_eq_sub_mod (by omega)]
theorem zeros_eq (zs : List Value) (n : Nat) (hz : zs ≠ []) : (Array.range (n * zs.length)).map (fun i => zs.toArray[i % zs.toArray.size]!) = (zerosL zs n).toArray := by
  apply Array.ext
  · simp [zerosL_length]
  · intro i h1 h2
    simp at h1
    have hpos : 0 < zs.length := List.length_pos_iff.2 hz
    have hlt : i % zs.length < zs.length := Nat.mod_lt _ hpos
    have h3 := zerosL_getElem? zs n i h1
    simp only [List.size_toArray] at h2
    rw [List.getElem?_eq_getElem h2, List.getElem?_eq_getElem hlt] at h3
    simp at h3
    simp [h3, hlt]
theorem ef_makeSlice {T e sz : Nat} {z : Value} {ti : TypeInfo} {n cp : Int} (hU : ∀ w, (underlying T).run P w = .ok (.slice e) w) (hI : ∀ w, (typeInfo e).run P w = .ok ti w) (hS : ∀ w, (sizeOf e).run P w = .ok sz w)
    (hZ : ∀ w, (zeroValue e).run P w = .ok z w) (hsz : ((cellsL z).length == sz && Nat.blt 0 sz) = true) (hx : evO l x = some (.int .i64 n)) (hy : evO l y = some (.int .i64 cp)) (h0 : 0 ≤ n) (h1 : n ≤ cp) (h2 : ti.bytes * cp ≤ 281474976710656) (hc63 : cp ≤ 281474976710656)
    (hk : ∀ r, K (.slice (some ⟨r, 0, none⟩) n.toNat cp.toNat) (pt r e (zerosL (cellsL z) cp.toNat) :: L)) : EffT P (.makeSlice T x y) ty (look l base) L K := by
  intro F w hw
  simp only [Bool.and_eq_true, beq_iff_eq] at hsz
  have hpos : 0 < sz := Nat.blt_eq ▸ hsz.2
  have e1 : IntKind.i64.wrap n = n := wrap64_id (by omega) (by omega)
  have e2 : IntKind.i64.wrap cp = cp := wrap64_id (by omega) (by omega)
  have t1 : (decide (cp < 0) || decide (281474976710656 < (ti.bytes : Int) * cp)) = false := by simp; omega
  have hne : cellsL z ≠ [] := by intro h; rw [h] at hsz; simp at hsz; omega
  have hrun : (execU (ev (look l base)) (.makeSlice T x y) ty).run P w = .ok (.value (.slice (some ⟨w.heap.size, 0, none⟩) n.toNat cp.toNat)) { w with heap := w.heap.push (.cells (zerosL (cellsL z) cp.toNat).toArray e) } := by
    have t2 : (decide (cp < 0) || decide ((ti.bytes : Int) * cp > 2 ^ 48) || decide (n < 0) || decide (n > cp)) = false := by
      have : (2 : Int) ^ 48 = 281474976710656 := rfl
      simp [this]; omega
    simp only [execU, execOp, Instr.makeSlice, Sem.run_bind, hU, Result.andThen_ok, evO_ev hx, evO_ev hy, asInt, asIntOf, Sem.run_pure, hI, e1, e2]
    simp only [t2, Bool.false_eq_true, if_false, Sem.run_bind, run_askRoom, Result.andThen_ok, hS]
    by_cases hn0 : cp.toNat * sz = 0
    · have : cp.toNat = 0 := by
        rcases Nat.mul_eq_zero.1 hn0 with h | h
        · exact h
        · omega
      have hr0 : Array.range 0 = #[] := by apply Array.ext <;> simp
      simp [hn0, this, newRow, zerosL, hr0]
    · simp only [hn0, if_false, Sem.run_bind, hZ, Result.andThen_ok, Sem.run_pure, newRow, run_newObj]
      have := zeros_eq (cellsL z) cp.toNat hne
      rw [hsz.1] at this
      rw [cellsL_cells z, this]
  rw [hrun]
  exact ⟨fun _ => grow_push _ _, _, hk _, hw.alloc ⟨rfl, rfl⟩ rfl⟩
end
end Go.Eng
/- The engine, part 7: what a walk's text uses. -/
set_option linter.unusedVariables false
set_option linter.unusedSimpArgs false
namespace Go.Eng
open Go
section
variable {P : Program} {b : Fr} {n : Nat} {G : FGoal} {k : List Item} {l : List (Nat × Value)} {base : Env} {ds : List Nat} {L : List SL} {ops : Array Oper} {os : List Oper}
theorem trl_pv {d : Nat} {op : Op} {ty : TypeId} {pos : String} {aft : Array Edge} {v : Value} (hv : PureV P op ty (look l base) v) (h : TrL P b n G ops os k (look ((d, v) :: l) base) ds L) :
    TrL P b n G ops ({ dst := some d, op := op, type := ty, pos := pos, after := aft, guard := none } :: os) k (look l base) ds L := trl_val hv.read h
theorem trl_pvg {d : Nat} {op : Op} {ty : TypeId} {pos : String} {aft : Array Edge} {j : Nat} {want t : Bool} {v : Value} (hg : gval ops l j = some (.bool t)) (ht : t = want)
    (hv : PureV P op ty (look l base) v) (h : TrL P b n G ops os k (look ((d, v) :: l) base) ds L) :
    TrL P b n G ops ({ dst := some d, op := op, type := ty, pos := pos, after := aft, guard := some (j, want) } :: os) k (look l base) ds L := trl_valg hg ht hv.read h
theorem tr_if {c : Operand} {x y : Code} {p : Prop} [Decidable p] (hc : evO l c = some (.bool (decide p))) (h1 : p → Tr P b n G (.code x :: k) (look l base) ds L) (h2 : ¬ p → Tr P b n G (.code y :: k) (look l base) ds L) :
    Tr P b n G (.code (.cond c x y) :: k) (look l base) ds L := tr_cond_p (evO_ev hc) h1 h2
theorem tr_ifb {c : Operand} {x y : Code} {t : Bool} (hc : evO l c = some (.bool t)) (h1 : t = true → Tr P b n G (.code x :: k) (look l base) ds L) (h2 : t = false → Tr P b n G (.code y :: k) (look l base) ds L) :
    Tr P b n G (.code (.cond c x y) :: k) (look l base) ds L := tr_cond (evO_ev hc) h1 h2
theorem tr_then {c : Operand} {x y : Code} {t : Bool} (hc : evO l c = some (.bool t)) (ht : t = true) (h : Tr P b n G (.code x :: k) (look l base) ds L) : Tr P b n G (.code (.cond c x y) :: k) (look l base) ds L :=
  tr_cond_t (evO_ev hc) ht h
theorem tr_else {c : Operand} {x y : Code} {t : Bool} (hc : evO l c = some (.bool t)) (ht : t = false) (h : Tr P b n G (.code y :: k) (look l base) ds L) : Tr P b n G (.code (.cond c x y) :: k) (look l base) ds L :=
  tr_cond_f (evO_ev hc) ht h
theorem tr_while {α : Type} {c : Code} (x₀ : α) (μ : α → Nat) (E : α → List (Nat × Value)) (I : α → List SL) {ks : List Nat}
    (h0 : Keep ks l (E x₀)) (h0L : ∀ F w, Holds L F w → Holds (I x₀) F w)
    (round : ∀ x base, (∀ y base', μ y < μ x → Tr P b n G (.inLoop c :: k) (look (E y) base') ds (I y)) → Tr P b n G (.code c :: .inLoop c :: k) (look (E x) base) ds (I x)) :
    Tr P b n G (.code (.loop c) :: k) (look l base) ds L := by
  refine tr_loop (α := α × Env) (fun x => μ x.1) (fun x => look (E x.1) x.2) (fun _ => ds) (fun x => I x.1) (x₀, look l base) (h0.look base) rfl h0L ?_
  intro x ih
  exact round x.1 x.2 fun y base' hy => ih (y, base') hy
theorem tr_again {α : Type} {c : Code} {μ : α → Nat} {E : α → List (Nat × Value)} {I : α → List SL} {x : α}
    (ih : ∀ y base', μ y < μ x → Tr P b n G (.inLoop c :: k) (look (E y) base') ds (I y)) (y : α) (hμ : μ y < μ x) {ks : List Nat} (h : Keep ks l (E y)) (hL : ∀ F w, Holds L F w → Holds (I y) F w) :
    Tr P b n G (.inLoop c :: k) (look l base) ds L := by
  intro F w hw
  rw [h.look base]
  exact ih y _ hμ F w (hL F w hw)
theorem tr_join {α : Type} {x : Item} (E : α → List (Nat × Value)) (I : α → List SL)
    (h1 : ∀ K, (∀ y base', Tr P b n G K (look (E y) base') ds (I y)) → Tr P b n G (x :: K) (look l base) ds L)
    (h2 : ∀ y base', Tr P b n G k (look (E y) base') ds (I y)) : Tr P b n G (x :: k) (look l base) ds L := h1 k h2
theorem tr_meet {α : Type} {K : List Item} {E : α → List (Nat × Value)} {I : α → List SL} (hK : ∀ y base', Tr P b n G K (look (E y) base') ds (I y)) (y : α) {ks : List Nat} (h : Keep ks l (E y))
    (hL : ∀ F w, Holds L F w → Holds (I y) F w) : Tr P b n G K (look l base) ds L := by
  intro F w hw
  rw [h.look base]
  exact hK y _ F w (hL F w hw)
theorem holds_of_picks {As M : List SL} (hp : Picks As L M) : ∀ F w, Holds L F w → Holds As F w := fun F w hw => (hw.picks hp).dropAll
end
end Go.Eng
