/- The engine: rows of things held, blocks of bands. -/
import Derived.Test.YtbmfgngjcpmjeaaGreatEngD
import Derived.Test.YtbmfgngjcpmjeaaGreatPlainB
/- The engine, part 13: rows of things held, one of them looked at; blocks of a band. -/
set_option linter.unusedVariables false
set_option linter.unusedSimpArgs false
namespace Go.Eng
open Go
def SLs {α β : Type} (A : α → β → SL) : List α → List β → SL
  | a :: l, b :: m => star (A a b) (SLs A l m)
  | _, _ => emp
theorem sls_focus {α β : Type} {A : α → β → SL} : ∀ {l : List α} {m : List β} {k : Nat} {a : α} {b : β}, l[k]? = some a → m[k]? = some b → SLs A l m = star (A a b) (SLs A (l.eraseIdx k) (m.eraseIdx k)) := by
  intro l
  induction l with
  | nil => intro m k a b h; simp at h
  | cons x l ih =>
    intro m k a b h h'
    cases m with
    | nil => simp at h'
    | cons y m =>
      cases k with
      | zero => simp at h h'; subst h; subst h'; rfl
      | succ k =>
        simp only [List.getElem?_cons_succ] at h h'
        simp only [List.eraseIdx_cons_succ, SLs]
        rw [ih h h', star_left_comm]
theorem sls_open {α β : Type} {A : α → β → SL} {l : List α} {m : List β} {k : Nat} {a : α} {b : β} (h : l[k]? = some a) (h' : m[k]? = some b) :
    Unfold (SLs A l m) (fun _ : Unit => True) (fun _ => [A a b, SLs A (l.eraseIdx k) (m.eraseIdx k)]) := by
  intro F w N hw
  rw [sls_focus h h'] at hw
  exact ⟨(), trivial, Holds.star.1 hw⟩
theorem sls_fold {α β : Type} {A : α → β → SL} {l : List α} {m : List β} {k : Nat} {a : α} {b : β} (h : l[k]? = some a) (h' : m[k]? = some b) :
    Fold [A a b, SLs A (l.eraseIdx k) (m.eraseIdx k)] (SLs A l m) := by
  intro F w N hw
  rw [sls_focus h h']
  exact Holds.star.2 hw
theorem eraseIdx_set {β : Type} : ∀ (m : List β) (k : Nat) (b : β), (m.set k b).eraseIdx k = m.eraseIdx k := by
  intro m
  induction m with
  | nil => intro k b; rfl
  | cons y m ih => intro k b; cases k with
    | zero => rfl
    | succ k => simp [ih]
theorem sls_put {α β : Type} {A : α → β → SL} {l : List α} {m : List β} {k : Nat} {a : α} {b : β} (h : l[k]? = some a) (hk : k < m.length) :
    Fold [A a b, SLs A (l.eraseIdx k) (m.eraseIdx k)] (SLs A l (m.set k b)) := by
  intro F w N hw
  rw [sls_focus h (by simp [hk] : (m.set k b)[k]? = some b), eraseIdx_set]
  exact Holds.star.2 hw
theorem sls_nil {α β : Type} {A : α → β → SL} {m : List β} : Fold [] (SLs A [] m) := by
  intro F w N hw
  obtain ⟨h1, m0, h2, h3⟩ := hw
  refine ⟨h1, m0, h2, ?_⟩
  show star (stars (emp :: N)) F.sl m0
  simp only [stars, emp_star]
  exact h3
theorem sls_snoc {α β : Type} {A : α → β → SL} : ∀ {l : List α} {m : List β} (a : α) (b : β), l.length = m.length → SLs A (l ++ [a]) (m ++ [b]) = star (A a b) (SLs A l m) := by
  intro l
  induction l with
  | nil =>
    intro m a b h
    cases m with
    | nil => rfl
    | cons => simp at h
  | cons x l ih =>
    intro m a b h
    cases m with
    | nil => simp at h
    | cons y m =>
      simp only [List.cons_append, SLs]
      rw [ih a b (by simpa using h), star_left_comm]
theorem sls_push {α β : Type} {A : α → β → SL} {l : List α} {m : List β} {a : α} {b : β} (h : l.length = m.length) : Fold [A a b, SLs A l m] (SLs A (l ++ [a]) (m ++ [b])) := by
  intro F w N hw
  rw [sls_snoc a b h]
  exact Holds.star.2 hw
theorem sl_shrink {e sz n m : Nat} {v : Value} {cells : List Value} (hm : m ≤ n) (hn : 0 < n) : Fold [Sl e sz n v cells] (Sl e sz m (subV v 0 m sz) (cells.take (m * sz))) := by
  intro F w N hw
  rcases holds_sl.1 hw with ⟨a, rfl, rfl, rfl, _⟩ | ⟨p, cap, rest, rfl, h1, h2, h3, h4⟩
  · omega
  · refine holds_sl.2 (.inr ⟨p, cap, cells.drop (m * sz) ++ rest, ?_, ?_, by omega, ?_, ?_⟩)
    · simp only [subV, Nat.sub_zero]
      congr 1
      unfold sliceAddr
      simp
      intro _
      rfl
    · rw [List.length_take, h1]
      have : m * sz ≤ n * sz := Nat.mul_le_mul_right _ hm
      omega
    · rw [← List.append_assoc, List.take_append_drop]; exact h3
    · rw [← List.append_assoc, List.take_append_drop]; exact h4
def encP (x : Int × Bool) : List Value := [.int .i64 x.1, .bool x.2]
theorem encP_len (x : Int × Bool) : (encP x).length = 2 := rfl
def passC (l : List (Int × Bool)) : List Value := l.flatMap encP
theorem passC_length (l : List (Int × Bool)) : (passC l).length = l.length * 2 := flat_length encP_len l
theorem one_passC {l : List (Int × Bool)} : ∀ v ∈ passC l, one? v = true := by
  intro v hv
  simp only [passC, List.mem_flatMap] at hv
  obtain ⟨x, _, hx⟩ := hv
  simp only [encP, List.mem_cons, List.not_mem_nil, or_false] at hx
  rcases hx with rfl | rfl <;> rfl
def encS (x : Bs × (Value × Value)) : List Value := [.int .i64 x.1.b.pl, x.2.1, x.2.2, .int .i64 (x.1.said : Int), .int .i64 (x.1.lb : Int)]
theorem encS_len (x : Bs × (Value × Value)) : (encS x).length = 5 := rfl
def scells (ss : List Bs) (gs : List (Value × Value)) : List Value := (ss.zip gs).flatMap encS
theorem sc_nil : scells [] [] = [] := rfl
theorem zip_get {α β : Type} {l : List α} {m : List β} {k : Nat} {a : α} {b : β} (h : l[k]? = some a) (h' : m[k]? = some b) : (l.zip m)[k]? = some (a, b) := by
  rw [List.getElem?_zip_eq_some]; exact ⟨h, h'⟩
theorem zip_put {α β : Type} : ∀ {l : List α} {m : List β} {k : Nat} {a : α} {b : β}, m[k]? = some b → (l.zip m).set k (a, b) = (l.set k a).zip m := by
  intro l
  induction l with
  | nil => intros; rfl
  | cons x l ih =>
    intro m k a b h
    cases m with
    | nil => simp at h
    | cons y m => cases k with
      | zero => simp at h; subst h; rfl
      | succ k => simp only [List.getElem?_cons_succ] at h; simp [ih h]
theorem sc_get {ss : List Bs} {gs : List (Value × Value)} {k o : Nat} {s : Bs} {g : Value × Value} {u : Value} (h : ss[k]? = some s) (h' : gs[k]? = some g) (hu : (encS (s, g))[o]? = some u) :
    (scells ss gs)[k * 5 + o]? = some u := flat_get encS_len (zip_get h h') hu
section
variable {ss : List Bs} {gs : List (Value × Value)} {k : Nat} {s : Bs} {g : Value × Value} (h : ss[k]? = some s) (h' : gs[k]? = some g)
include h h'
theorem sc_pl : (scells ss gs)[k * 5 + 0]? = some (.int .i64 s.b.pl) := sc_get h h' rfl
theorem sc_pv : (scells ss gs)[k * 5 + 1]? = some g.1 := sc_get h h' rfl
theorem sc_bv : (scells ss gs)[k * 5 + 2]? = some g.2 := sc_get h h' rfl
theorem sc_said : (scells ss gs)[k * 5 + 3]? = some (.int .i64 (s.said : Int)) := sc_get h h' rfl
theorem sc_lb : (scells ss gs)[k * 5 + 4]? = some (.int .i64 (s.lb : Int)) := sc_get h h' rfl
end
theorem sc_part {ss : List Bs} {gs : List (Value × Value)} {k : Nat} {s : Bs} {g : Value × Value} (h : ss[k]? = some s) (h' : gs[k]? = some g) : ∀ o, o < 5 → (scells ss gs)[k * 5 + o]? = (encS (s, g))[o]? :=
  flat_part encS_len (zip_get h h')
theorem sc_part3 {ss : List Bs} {gs : List (Value × Value)} {k : Nat} {s : Bs} {g : Value × Value} (h : ss[k]? = some s) (h' : gs[k]? = some g) : ∀ o, o < 3 → (scells ss gs)[k * 5 + o]? = ([.int .i64 s.b.pl, g.1, g.2] : List Value)[o]? := by
  intro o ho
  rw [sc_part h h' o (by omega)]
  rcases (by omega : o = 0 ∨ o = 1 ∨ o = 2) with rfl | rfl | rfl <;> rfl
theorem pc_end {b : Bk} {i : Nat} (h : i < b.ps.length) : (passC b.ps)[i * 2 + 0]? = some (.int .i64 ((endsOf b).getD i 0)) := by
  have hx : b.ps[i]? = some b.ps[i] := List.getElem?_eq_getElem h
  have e : (endsOf b).getD i 0 = b.ps[i].1 := by simp [endsOf, h]
  rw [e]
  exact flat_get encP_len hx rfl
theorem sc_set {ss : List Bs} {gs : List (Value × Value)} {k o : Nat} {s s' : Bs} {g : Value × Value} {u : Value} (h : ss[k]? = some s) (h' : gs[k]? = some g) (ho : o < 5) (hu : (encS (s, g)).set o u = encS (s', g)) :
    (scells ss gs).set (k * 5 + o) u = scells (ss.set k s') gs := by
  unfold scells
  rw [flat_set encS_len (zip_get h h') ho hu, zip_put h']
theorem sc_length {ss : List Bs} {gs : List (Value × Value)} (h : gs.length = ss.length) : (scells ss gs).length = ss.length * 5 := by
  unfold scells
  rw [flat_length encS_len]
  simp [h]
theorem sc_lt {ss : List Bs} {gs : List (Value × Value)} {k o : Nat} (h : gs.length = ss.length) (hk : k < ss.length) (ho : o < 5) : k * 5 + o < (scells ss gs).length := by
  rw [sc_length h]; omega
def BP (tp tb : TypeId) (g : Value × Value) (s : Bs) : SL := star (Sl tp 2 s.b.ps.length g.1 (passC s.b.ps)) (Sl tb 1 s.b.bys.length g.2 (u8s s.b.bys))
theorem bp_open {tp tb : TypeId} {g : Value × Value} {s : Bs} : Unfold (BP tp tb g s) (fun _ : Unit => True) (fun _ => [Sl tp 2 s.b.ps.length g.1 (passC s.b.ps), Sl tb 1 s.b.bys.length g.2 (u8s s.b.bys)]) :=
  fun F w N hw => ⟨(), trivial, Holds.star.1 hw⟩
theorem bp_fold {tp tb : TypeId} {g : Value × Value} {s : Bs} : Fold [Sl tp 2 s.b.ps.length g.1 (passC s.b.ps), Sl tb 1 s.b.bys.length g.2 (u8s s.b.bys)] (BP tp tb g s) := fun F w N hw => Holds.star.2 hw
theorem bps_turn {tp tb : TypeId} : ∀ {gs : List (Value × Value)} {ss ss' : List Bs}, ss'.map (·.b) = ss.map (·.b) → SLs (BP tp tb) gs ss' = SLs (BP tp tb) gs ss := by
  intro gs
  induction gs with
  | nil => intros; rfl
  | cons g gs ih =>
    intro ss ss' h
    cases ss with
    | nil => cases ss' with
      | nil => rfl
      | cons => simp at h
    | cons s ss => cases ss' with
      | nil => simp at h
      | cons s' ss' =>
        simp only [List.map_cons, List.cons.injEq] at h
        simp only [SLs]
        rw [ih h.2]
        unfold BP
        rw [h.1]
theorem map_b_set {ss : List Bs} {k : Nat} {s s' : Bs} (h : ss[k]? = some s) (hb : s'.b = s.b) : (ss.set k s').map (·.b) = ss.map (·.b) := by
  rw [List.map_set, hb]
  apply List.ext_getElem?
  intro i
  by_cases hi : k = i
  · subst hi
    have hk := (List.getElem?_eq_some_iff.1 h).1
    rw [List.getElem?_set_self (by simpa using hk), List.getElem?_map, h]; rfl
  · rw [List.getElem?_set_ne hi]
theorem sls_put2 {α β : Type} {A : α → β → SL} {l : List α} {m : List β} {k : Nat} {a : α} {b : β} (hl : k < l.length) (hk : k < m.length) :
    Fold [A a b, SLs A (l.eraseIdx k) (m.eraseIdx k)] (SLs A (l.set k a) (m.set k b)) := by
  intro F w N hw
  rw [sls_focus (by simp [hl] : (l.set k a)[k]? = some a) (by simp [hk] : (m.set k b)[k]? = some b), eraseIdx_set, eraseIdx_set]
  exact Holds.star.2 hw
theorem zip_set2 {α β : Type} : ∀ {l : List α} {m : List β} {k : Nat} {a : α} {b : β}, (l.zip m).set k (a, b) = (l.set k a).zip (m.set k b) := by
  intro l
  induction l with
  | nil => intros; rfl
  | cons x l ih =>
    intro m k a b
    cases m with
    | nil => cases k <;> rfl
    | cons y m => cases k with
      | zero => rfl
      | succ k => simp [ih]
theorem drop_two {l : List Value} {i : Nat} {a b : Value} (ha : l[i]? = some a) (hb : l[i + 1]? = some b) : l.drop i = a :: b :: l.drop (i + 2) := by
  obtain ⟨h1, rfl⟩ := List.getElem?_eq_some_iff.1 ha
  obtain ⟨h2, rfl⟩ := List.getElem?_eq_some_iff.1 hb
  rw [List.drop_eq_getElem_cons h1, List.drop_eq_getElem_cons h2]
theorem sc_put {ss : List Bs} {gs : List (Value × Value)} {k : Nat} {s : Bs} {g : Value × Value} {b' : Bk} {g' : Value × Value} (h : ss[k]? = some s) (h' : gs[k]? = some g) :
    (scells ss gs).take (k * 5) ++ [.int .i64 b'.pl, g'.1, g'.2] ++ (scells ss gs).drop (k * 5 + 3) = scells (ss.set k { s with b := b' }) (gs.set k g') := by
  have h3 := sc_get (o := 3) h h' rfl
  have h4 := sc_get (o := 4) h h' rfl
  rw [drop_two h3 h4]
  have hz := zip_get h h'
  have hk := (List.getElem?_eq_some_iff.1 hz).1
  have e := flat_put encS_len (l := ss.zip gs) (i := k) (x' := ({ s with b := b' }, g')) hk
  have e2 : (ss.zip gs).set k ({ s with b := b' }, g') = (ss.set k { s with b := b' }).zip (gs.set k g') := by
    rw [zip_set2]
  unfold scells
  rw [← e2, ← e]
  simp [encS]
theorem sc_put5 {ss : List Bs} {gs : List (Value × Value)} {k : Nat} {s' : Bs} {g : Value × Value} (hk : k < ss.length) (h' : gs[k]? = some g) :
    (scells ss gs).take (k * 5) ++ encS (s', g) ++ (scells ss gs).drop (k * 5 + (encS (s', g)).length) = scells (ss.set k s') gs := by
  have hk2 := (List.getElem?_eq_some_iff.1 h').1
  unfold scells
  rw [flat_put encS_len (by simp; omega), zip_put h']
theorem sc_snoc {n : Nat} {s : Bs} {g : Value × Value} : scells (List.replicate (n + 1) s) (List.replicate (n + 1) g) = scells (List.replicate n s) (List.replicate n g) ++ encS (s, g) := by
  unfold scells
  rw [List.zip_replicate, List.zip_replicate, Nat.min_self, Nat.min_self, List.replicate_succ']
  simp
theorem sc_begun (n : Nat) : scells (List.replicate (n + 1) ⟨noBk, 0, 3⟩) (List.replicate (n + 1) (.slice none 0 0, .slice none 0 0)) =
    scells (List.replicate n ⟨noBk, 0, 3⟩) (List.replicate n (.slice none 0 0, .slice none 0 0)) ++ [.int .i64 0, .slice none 0 0, .slice none 0 0, .int .i64 0, .int .i64 3] := sc_snoc
theorem sc_zeros (n : Nat) : zerosL [.int .i64 0, .slice none 0 0, .slice none 0 0, .int .i64 0, .int .i64 0] n = scells (List.replicate n ⟨noBk, 0, 0⟩) (List.replicate n (.slice none 0 0, .slice none 0 0)) := by
  induction n with
  | zero => rfl
  | succ n ih => simp only [zerosL, List.replicate_succ, scells, List.zip_cons_cons, List.flatMap_cons] at ih ⊢; rw [ih]; rfl
theorem bp_nil {tp tb : TypeId} {s : Bs} (h : s.b = noBk) : Fold [] (BP tp tb (.slice none 0 0, .slice none 0 0) s) := by
  intro F w N hw
  refine Holds.star.2 ?_
  rw [h]
  exact sl_nil (sl_nil hw)
theorem sls_noBk {tp tb : TypeId} {s : Bs} (h : s.b = noBk) : ∀ (n : Nat), Fold [] (SLs (BP tp tb) (List.replicate n (.slice none 0 0, .slice none 0 0)) (List.replicate n s)) := by
  intro n
  induction n with
  | zero => exact sls_nil
  | succ n ih =>
    intro F w N hw
    simp only [List.replicate_succ, SLs]
    exact Holds.star.2 (bp_nil h F w _ (ih F w N hw))
def begunS (n i : Nat) : List Bs := List.replicate i ⟨noBk, 0, 3⟩ ++ List.replicate (n - i) ⟨noBk, 0, 0⟩
theorem begunS_length {n i : Nat} (h : i ≤ n) : (begunS n i).length = n := by simp [begunS]; omega
theorem begunS_zero (n : Nat) : begunS n 0 = List.replicate n ⟨noBk, 0, 0⟩ := by simp [begunS]
theorem begunS_get {n i : Nat} (h : i < n) : (begunS n i)[i]? = some ⟨noBk, 0, 0⟩ := by
  unfold begunS
  rw [List.getElem?_append_right (by simp), List.length_replicate, Nat.sub_self, show n - i = (n - (i + 1)) + 1 by omega, List.replicate_succ]
  rfl
theorem begunS_set {n i : Nat} (h : i < n) : (begunS n i).set i ⟨noBk, 0, 3⟩ = begunS n (i + 1) := by
  unfold begunS
  rw [List.set_append_right _ _ (by simp), show n - i = (n - (i + 1)) + 1 by omega, List.replicate_succ]
  simp [List.replicate_succ']
theorem pc_part {l : List (Int × Bool)} {i : Nat} {x : Int × Bool} (h : l[i]? = some x) : ∀ o, o < 2 → (passC l)[i * 2 + o]? = (encP x)[o]? := flat_part encP_len h
theorem i64_zeros (n : Nat) : zerosL [.int .i64 0] n = i64s (noughts n) := by
  induction n with
  | zero => rfl
  | succ n ih => simp only [zerosL, noughts, List.replicate_succ] at ih ⊢; rw [ih]; rfl
theorem i64s_part {nums : List Int} {i : Nat} {x : Int} (h : nums[i]? = some x) : (i64s (partN nums i)).set (i * 1) (.int .i64 x) = i64s (partN nums (i + 1)) := by
  rw [Nat.mul_one, i64s_set, partN_set h]
structure Gd where
  r : Nat
  v : Value
  rF : Nat
  rZ : Nat
  gs : List (Value × Value)
instance : Inhabited Gd := ⟨⟨0, .bool false, 0, 0, []⟩⟩
theorem Rd.perm {L M : List SL} {r o : Nat} {v : Value} (h : Rd M r o v) (hp : L.Perm M) : Rd L r o v := fun F w hw => h F w (hw.perm hp)
theorem Rd.unfold {α : Type} {A : SL} {p : α → Prop} {As : α → List SL} {L M : List SL} {r o : Nat} {v : Value} (h : Unfold A p As) (hp : Pick A L M) (t : ∀ x, p x → Rd (As x ++ M) r o v) : Rd L r o v := by
  intro F w hw
  obtain ⟨x, hx, h2⟩ := h F w M (hw.perm hp.perm)
  exact t x hx F w h2
theorem Rd.at {A : SL} {L M : List SL} {r o : Nat} {v : Value} (hp : Pick A L M) (h : Rd [A] r o v) : Rd L r o v :=
  fun F w hw => h F w (Holds.dropAll (L := [A]) (M := M) (hw.perm hp.perm))
end Go.Eng
