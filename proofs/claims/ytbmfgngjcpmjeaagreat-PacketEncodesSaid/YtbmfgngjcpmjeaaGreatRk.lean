/- Contracts of functions that the law reaches, in every memory (part Rk). -/
import Derived.Test.YtbmfgngjcpmjeaaGreatPk4
import Derived.Test.YtbmfgngjcpmjeaaGreatPlainC
set_option linter.unusedVariables false
set_option linter.unusedSimpArgs false
set_option maxRecDepth 10000
namespace Go.Proofs
open Go.Eng Tryz
def RS (r : Nat) (sh : List (Nat × Nat)) (nums : List Int) : SL :=
  exs (fun x : List Int × Bool => nums.length = leavesOf sh ∧ nums.length + x.1.length = total sh ∧ (∀ y ∈ nums, y ≤ big) ∧ (x.2 = true → nums ++ x.1 = mins sh nums)) (fun x => [RT r sh (mk0 (nums ++ x.1)) x.2])
def RG (r : Nat) (sh : List (Nat × Nat)) (T : List Nd) : SL :=
  exs (fun x : Bool × List Int => x.1 = true ∨ T = mk0 (mins sh x.2)) (fun x => [if x.1 = true then RT r sh T true else RS r sh x.2])
theorem rg_true {r : Nat} {sh : List (Nat × Nat)} {T : List Nd} : Fold [RT r sh T true] (RG r sh T) := by
  intro F w N hw
  exact exs_fold (A := fun x : Bool × List Int => [if x.1 = true then RT r sh T true else RS r sh x.2]) (true, []) (.inl rfl) F w N hw
theorem rg_rs {r : Nat} {sh : List (Nat × Nat)} {nums : List Int} : Fold [RS r sh nums] (RG r sh (mk0 (mins sh nums))) := by
  intro F w N hw
  exact exs_fold (A := fun x : Bool × List Int => [if x.1 = true then RT r sh (mk0 (mins sh nums)) true else RS r sh x.2]) (false, nums) (.inr rfl) F w N hw
theorem mk0_inj {a b : List Int} (h : mk0 a = mk0 b) : a = b := by
  have := congrArg numsOf h
  rwa [numsOf_mk0, numsOf_mk0] at this
theorem rs_rg {r : Nat} {sh : List (Nat × Nat)} {nums : List Int} (hH : Halves sh) (hn : nums.length = leavesOf sh) (hb : ∀ y ∈ nums, y ≤ big) : Fold [RG r sh (mk0 (mins sh nums))] (RS r sh nums) := by
  intro F w N hw
  obtain ⟨⟨t, n0⟩, hp, h⟩ := exs_open F w N hw
  have hl : ∀ s, sh.head? = some s → nums.length = s.1 * s.2 := by
    intro s hs; rw [hn]; unfold leavesOf; rw [hs]
  cases t with
  | true =>
    have e : nums ++ (mins sh nums).drop nums.length = mins sh nums := by
      conv => lhs; rw [← mins_take hn]
      rw [mins_take hn]
      conv => rhs; rw [← List.take_append_drop nums.length (mins sh nums), mins_take hn]
    have hlen : nums.length + ((mins sh nums).drop nums.length).length = total sh := by
      have := congrArg List.length e
      rw [List.length_append, mins_length sh nums hH hl] at this
      exact this
    refine exs_fold (A := fun x : List Int × Bool => [RT r sh (mk0 (nums ++ x.1)) x.2]) ((mins sh nums).drop nums.length, true) ⟨hn, hlen, hb, fun _ => e⟩ F w N ?_
    dsimp only; rw [e]; exact h
  | false =>
    rcases hp with hp | hp
    · simp at hp
    · have h' : Holds ([RS r sh n0] ++ N) F w := h
      have e := mk0_inj hp
      obtain ⟨x, hx, h2⟩ := exs_open F w N h'
      have e2 : nums = n0 := by
        rw [← mins_take hn, ← mins_take hx.1, hn, hx.1, e]
      subst e2
      exact h'
theorem rs_set {r k : Nat} {sh : List (Nat × Nat)} {nums : List Int} {n : Int} (hk : k < nums.length) (hn : n ≤ big) (hsz : total sh ≤ 10000000) :
    Spec Tryz.prog 79 [.pointer (some ⟨r, 0, none⟩), .int .i64 (k : Nat), .int .i64 n] [RS r sh nums] (fun _ : Unit => ⟨.tuple #[], True, [RS r sh (nums.set k n)]⟩) := by
  intro F w hw
  obtain ⟨⟨z, fr⟩, ⟨h1, h2, h3, h4⟩, h⟩ := exs_open F w [] hw
  have hnd : (mk0 (nums ++ z))[k]? = some ⟨nums[k], 0, false⟩ := by
    refine mk0_get1 ?_
    rw [List.getElem?_append_left hk, List.getElem?_eq_getElem hk]
  refine (rtree_set (T := mk0 (nums ++ z)) (fresh := fr) (n := n) (by omega) hnd hsz F w h).mono ?_
  rintro e w' ⟨x, he, hp, hl⟩
  refine ⟨(), he, trivial, ?_⟩
  have h3' : ∀ y ∈ nums.set k n, y ≤ big := by
    intro y hy
    rcases List.mem_or_eq_of_mem_set hy with hy | rfl
    · exact h3 y hy
    · exact hn
  refine exs_fold (A := fun x : List Int × Bool => [RT r sh (mk0 (nums.set k n ++ x.1)) x.2]) (z, false) ⟨by simpa using h1, by simpa using h2, h3', fun h => by simp at h⟩ F w' [] ?_
  have e : (mk0 (nums ++ z)).set k ⟨n, 0, false⟩ = mk0 (nums.set k n ++ z) := by rw [mk0_set, List.set_append_left _ _ hk]
  have hl' : Holds [RT r sh ((mk0 (nums ++ z)).set k ⟨n, 0, false⟩) false] F w' := hl
  rw [e] at hl'
  exact hl'
theorem rg_encode {r w : Nat} {sh : List (Nat × Nat)} {T : List Nd} {bs : List Bool} {k : Nat} {s0 : Nat × Nat} {bound : Int} (hF : Fine sh) (hE1 : Ends1 sh) (hz0 : sh[0]? = some s0) (hk : k < s0.1 * s0.2)
    (hok : WayOk bound (tway sh (k : Int)) T 0) (hlen : bs.length + (encT sh T (k : Int) bound).1.length < 900000000000) (hb : bound < 1000000000000) :
    Spec Tryz.prog 37 [.pointer (some ⟨r, 0, none⟩), .pointer (some ⟨w, 0, none⟩), .int .i64 (k : Nat), .int .i64 bound] [RG r sh T, WR w bs]
    (fun _ : Unit => ⟨.tuple #[], True, [RG r sh (encT sh T (k : Int) bound).2, WR w (bs ++ (encT sh T (k : Int) bound).1)]⟩) := by
  intro F w0 hw
  have htot := total_fine hF
  obtain ⟨⟨t, nums⟩, hp, h⟩ := exs_open F w0 [WR w bs] hw
  have key : ∀ (T0 : List Nd) (fresh : Bool), Spec Tryz.prog 80 [.pointer (some ⟨r, 0, none⟩)] [RT r sh T0 fresh] (fun _ : Unit => ⟨.tuple #[], True, [RT r sh T true]⟩) →
      Holds ([RT r sh T0 fresh] ++ [WR w bs]) F w0 → Calls Tryz.prog 37 [.pointer (some ⟨r, 0, none⟩), .pointer (some ⟨w, 0, none⟩), .int .i64 (k : Nat), .int .i64 bound].toArray w0
        (fun e w' => ∃ x : Unit, e = .returned (.tuple #[]) ∧ True ∧ Holds [RG r sh (encT sh T (k : Int) bound).2, WR w (bs ++ (encT sh T (k : Int) bound).1)] F w') := by
    intro T0 fresh hfill h0
    refine (rtree_encode hF hE1 hz0 hk hfill hok hlen hb F w0 h0).mono ?_
    rintro e w' ⟨x, he, _, hl⟩
    exact ⟨(), he, trivial, rg_true F w' [_] hl⟩
  cases t with
  | true => exact key T true rtree_fill1 h
  | false =>
    rcases hp with hp | hp
    · simp at hp
    · obtain ⟨⟨z, fr⟩, ⟨h1, h2, h3, h4⟩, h⟩ := exs_open F w0 [WR w bs] h
      cases fr with
      | true =>
        have e : mk0 (nums ++ z) = T := by rw [h4 rfl, hp]
        dsimp only at h
        rw [e] at h
        exact key T true rtree_fill1 h
      | false =>
        refine key _ false ?_ h
        rw [hp]
        exact rtree_fill2 hF.1 hE1 h1 h2 h3 (by omega)
def RB (g : Gd) (bd : Bd) : SL := exs (fun st : Bool => g.gs.length = bd.ss.length ∧ (bd.ss ≠ [] → st = bd.set)) (fun st => [pt g.r 83 [.int .i64 bd.planes, g.v, .pointer (some ⟨g.rF, 0, none⟩), .pointer (some ⟨g.rZ, 0, none⟩), .bool st],
  Sl 85 5 bd.ss.length g.v (scells (us bd.ss) g.gs), SLs (BP 90 5) g.gs bd.ss, RG g.rF bd.sh bd.first, RG g.rZ bd.sh bd.zeros])
theorem rb_open {g : Gd} {bd : Bd} : Unfold (RB g bd) (fun st : Bool => g.gs.length = bd.ss.length ∧ (bd.ss ≠ [] → st = bd.set)) (fun st => [pt g.r 83 [.int .i64 bd.planes, g.v, .pointer (some ⟨g.rF, 0, none⟩), .pointer (some ⟨g.rZ, 0, none⟩), .bool st],
  Sl 85 5 bd.ss.length g.v (scells (us bd.ss) g.gs), SLs (BP 90 5) g.gs bd.ss, RG g.rF bd.sh bd.first, RG g.rZ bd.sh bd.zeros]) := exs_open
theorem rb_fold {g : Gd} {bd : Bd} {r n rF rZ : Nat} {v : Value} {p : Int} {st : Bool} {cs : List Value} {ss' : List Bs} {T1 T2 : List Nd} {sh : List (Nat × Nat)} (hg : g.gs.length = bd.ss.length) (hr : g.r = r) (hv : g.v = v) (hp : bd.planes = p) (hF : g.rF = rF) (hZ : g.rZ = rZ)
    (hs : bd.ss ≠ [] → st = bd.set) (hn : bd.ss.length = n) (hc : scells (us bd.ss) g.gs = cs) (hss : ss'.map (·.b) = bd.ss.map (·.b)) (h1 : bd.first = T1) (h2 : bd.zeros = T2) (hsh : bd.sh = sh) :
    Fold [pt r 83 [.int .i64 p, v, .pointer (some ⟨rF, 0, none⟩), .pointer (some ⟨rZ, 0, none⟩), .bool st],
      Sl 85 5 n v cs, SLs (BP 90 5) g.gs ss', RG rF sh T1, RG rZ sh T2] (RB g bd) := by
  intro F w N hw
  subst hr; subst hv; subst hp; subst hF; subst hZ; subst hn; subst hc; subst h1; subst h2; subst hsh
  rw [bps_turn hss] at hw
  exact exs_fold st ⟨hg, hs⟩ F w N hw
theorem rb_empty {g : Gd} {bd : Bd} {count : Nat} (hB : BdOk bd) (h : bd.ss = []) : Fold [RB g (plantF count bd)] (RB g bd) := by
  intro F w N hw
  obtain ⟨e1, e2⟩ := plant_empty (count := count) hB h
  obtain ⟨st, ⟨hg, _⟩, h2⟩ := rb_open F w N hw
  rw [e1, e2, plantF_ss, plantF_sh, plantF_planes] at h2
  rw [plantF_ss] at hg
  exact exs_fold st ⟨hg, fun hne => absurd h hne⟩ F w N h2
end Go.Proofs
