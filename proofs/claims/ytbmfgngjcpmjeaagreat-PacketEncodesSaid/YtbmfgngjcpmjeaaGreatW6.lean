/- Contracts of functions that the law reaches, in every memory (part W6). -/
import Derived.Test.YtbmfgngjcpmjeaaGreatW5
import Derived.Test.YtbmfgngjcpmjeaaGreatRows
import Derived.ProofKit
import Derived.OpenShut
import Derived.ChangeOld
import Derived.Below
import Derived.Carry
import Derived.Deep.Slices
set_option linter.unusedVariables false
set_option linter.unusedSimpArgs false
set_option maxRecDepth 100000
namespace Go.Proofs.YtbmfgngjcpmjeaaGreat.Bridge
open Go Go.Proofs Go.Eng Go.ChangeShapes Go.WideShapes Go.ChangeAt Go.RowKit Go.Deep Tryz
theorem own : ownKnob Tryz.prog.godebug = none := by kernel_rfl
theorem laidOut : laidOutB Tryz.prog = true := by kernel_rfl
theorem add_parts (a : Addr) (k : Nat) : (a.add k).block = a.block ∧ (a.add k).off = a.off + k := by
  unfold Addr.add
  split
  · rename_i h; subst h; exact ⟨rfl, rfl⟩
  · exact ⟨rfl, rfl⟩
theorem i64_of_wf {x : Int} (h : (Lit.int .i64 x).wf = true) : -9223372036854775808 ≤ x ∧ x ≤ 9223372036854775807 := by
  simp [Lit.wf, IntKind.min, IntKind.max, IntKind.signed, IntKind.bits] at h
  exact ⟨by omega, by omega⟩
section
variable {H : Type} {enc : TypeId × Value → H} {W : World}
theorem ri_of {n : Nat} {c : Value} {y : DataW H × List MemPlace} (h : DataW.trod enc Tryz.prog W 0 (fun _ => true) true n 38 [c] = some y) : ∃ ns, RI W c ns := by
  rcases open_ints Tryz.underlying38 Tryz.underlying3 (by kernel_rfl) h with ⟨hcs, _⟩ | ⟨a, len, cap, zs, hcs, _, hl, hm, hz, _, hcell, hwz⟩
  · obtain rfl : c = .slice none 0 0 := by simpa using hcs
    exact ⟨[], 0, 0, ⟨none, 0, rfl, .inl rfl⟩, by intro i x hx; simp at hx⟩
  · obtain rfl : c = .slice (some a) len cap := by simpa using hcs
    have hzl : zs.length = cap := by simpa using hz
    by_cases h0 : len = 0
    · subst h0
      exact ⟨[], 0, 0, ⟨some a, cap, rfl, .inl rfl⟩, by intro i x hx; simp at hx⟩
    · obtain ⟨b, off, spot⟩ := a
      have hc0 := hcell 0 (by omega)
      have hspot : spot = none := by simpa [Addr.add] using World.cell?_spot hc0
      subst hspot
      have htl : (zs.take len).length = len := by rw [List.length_take]; omega
      refine ⟨zs.take len, b, off, ⟨some ⟨b, off, none⟩, cap, by rw [htl], .inr rfl⟩, ?_⟩
      intro i x hx
      have hi : i < len := by have := (List.getElem?_eq_some_iff.1 hx).1; omega
      rw [List.getElem?_take, if_pos hi] at hx
      have h1 := hcell i (by omega)
      rw [List.getD_eq_getElem?_getD, hx] at h1
      rw [Eng.add_off] at h1
      exact ⟨h1, i64_of_wf (hwz x (List.mem_of_getElem? hx))⟩
theorem shp_of {n : Nat} {a : Addr} {cs : List Value} {y : DataW H × List MemPlace} (hc : W.cells? 0 a (Tryz.prog.cellsOf 46) = some cs) (h : DataW.trod enc Tryz.prog W 0 (fun _ => true) true n 46 cs = some y) : a.spot = none ∧ ∃ s, ShAt W a.block a.off s := by
  have ce : Tryz.prog.cellsOf 46 = 5 := by kernel_rfl
  have c3 : Tryz.prog.cellsOf 3 = 1 := by kernel_rfl
  have c38 : Tryz.prog.cellsOf 38 = 1 := by kernel_rfl
  rw [ce] at hc
  obtain ⟨_, hlen, hcell⟩ := World.cells?_some hc
  obtain ⟨xs, k, _, _, _, hxl, hf⟩ := DataW.trod_struct Tryz.underlying46 h
  match xs, hxl, cs, hlen with
  | [y0, y1, y2, y3, y4], _, [v0, v1, v2, v3, v4], _ =>
    have g0 := hf 0 _ rfl
    have g1 := hf 1 _ rfl
    have g2 := hf 2 _ rfl
    have g3 := hf 3 _ rfl
    have g4 := hf 4 _ rfl
    simp [c3, c38] at g0 g1 g2 g3 g4
    obtain ⟨n0, e0, _, _⟩ := DataW.trod_int Tryz.underlying3 g0
    obtain ⟨n1, e1, _, _⟩ := DataW.trod_int Tryz.underlying3 g1
    obtain ⟨n2, e2, _, _⟩ := DataW.trod_int Tryz.underlying3 g2
    obtain ⟨ps, hp⟩ := ri_of g3
    obtain ⟨ns, hn⟩ := ri_of g4
    simp only [List.cons.injEq, and_true] at e0 e1 e2
    subst e0; subst e1; subst e2
    have k0 := hcell 0 (by omega)
    have k1 := hcell 1 (by omega)
    have k2 := hcell 2 (by omega)
    have k3 := hcell 3 (by omega)
    have k4 := hcell 4 (by omega)
    obtain ⟨b, off, spot⟩ := a
    have hspot : spot = none := by simpa [Addr.add] using World.cell?_spot k0
    subst hspot
    refine ⟨rfl, ⟨n0, n1, n2, v3, ps, v4, ns⟩, ?_, ?_, ?_, ?_, ?_, hp, hn⟩
    · simpa [Addr.add] using k0
    · simpa [Addr.add] using k1
    · simpa [Addr.add] using k2
    · simpa [Addr.add] using k3
    · simpa [Addr.add] using k4
theorem rsh_of {v : Value} {d : DataW H} {ps : List MemPlace} {a0 : Option Addr} {len0 cap0 : Nat} (hv : v = .slice a0 len0 cap0) (h : DataW.Trod enc Tryz.prog W 0 (fun _ => true) true 22 v d ps) : ∃ l p o, RSh W v l p o := by
  subst hv
  obtain ⟨fuel, hf⟩ := h
  rcases open_slice Tryz.underlying22 hf with ⟨hcs, _⟩ | ⟨a, len, cap, m, n, D, Pl, hcs, _, hl, hm, hmm, _, hx⟩
  · simp [Value.cells] at hcs
    obtain ⟨rfl, rfl, rfl⟩ := hcs
    exact ⟨[], 0, 0, ⟨none, 0, rfl, .inl rfl⟩, by intro i s hs; simp at hs⟩
  · simp [Value.cells] at hcs
    obtain ⟨rfl, rfl, rfl⟩ := hcs
    have hmc : m = cap0 := by simpa using hmm
    have ce : Tryz.prog.cellsOf 46 = 5 := by kernel_rfl
    have each : ∀ i, i < len0 → ∃ s, ShAt W a.block (a.off + i * 5) s := by
      intro i hi
      obtain ⟨cs', h1, h2⟩ := hx i (by omega)
      obtain ⟨h3, s, h4⟩ := shp_of h1 h2
      rw [ce] at h4
      obtain ⟨e1, e2⟩ := add_parts a (i * 5)
      rw [e1, e2] at h4
      exact ⟨s, h4⟩
    obtain ⟨f, hf⟩ := choose_lt each
    by_cases h0 : len0 = 0
    · subst h0
      exact ⟨[], 0, 0, ⟨some a, cap0, rfl, .inl rfl⟩, by intro i s hs; simp at hs⟩
    · have hsp : a.spot = none := by
        obtain ⟨cs', h1, h2⟩ := hx 0 (by omega)
        have h3 := (shp_of h1 h2).1
        rw [Nat.zero_mul] at h3
        exact h3
      obtain ⟨b, off, spot⟩ := a
      subst hsp
      refine ⟨(List.range len0).map f, b, off, ⟨some ⟨b, off, none⟩, cap0, by simp, .inr rfl⟩, ?_⟩
      intro i s hs
      rw [List.getElem?_map] at hs
      cases hr : (List.range len0)[i]? with
      | none => rw [hr] at hs; simp at hs
      | some j =>
        rw [hr] at hs
        have hj := List.getElem?_eq_some_iff.1 hr
        obtain ⟨hj1, hj2⟩ := hj
        simp at hj1 hj2 hs
        subst hj2; subst hs
        exact hf i hj1
end
structure Stay (W W' : World) : Prop where
  os : W'.os = W.os
  output : W'.output = W.output
  block : ∀ k, k < W.heap.size → W'.heap[k]? = W.heap[k]?
theorem stay_of {W W' : World} (h : Holds [ro W] ⟨emp, W.os, W.output⟩ W') : Stay W W' := by
  refine ⟨h.1.1, h.1.2, fun k hk => ?_⟩
  have hx : W.heap[k]? = some W.heap[k] := Array.getElem?_eq_getElem hk
  rw [hx]
  exact ro_heap h hx
theorem start (W : World) : Holds [ro W] ⟨emp, W.os, W.output⟩ W := by
  refine ⟨⟨rfl, rfl⟩, mem W, fun r x h => h, ?_⟩
  rw [show stars [ro W] = star (ro W) emp from rfl, star_emp, star_emp]
  rfl
theorem Stay.frame {W W' : World} (h : Stay W W') (may : MemPlace → Prop) : W.keptBut W' may := by
  refine ⟨h.os, h.output, fun i hi => ?_⟩
  rw [h.block i hi]
  split <;> simp_all
theorem Stay.same {W W' : World} (h : Stay W W') {p : MemPlace} (hp : p.block < W.heap.size) : W.sameAt W' p := by
  cases p with
  | cell b o => exact World.cell?_of_block (w := W) (h.block b hp)
  | map b => exact h.block b hp
theorem lifted (os : Os) (started : os.Started) (H : Type) (enc : TypeId × Value → H) :
    ReturnsInHanded {} Tryz.checked os 3 .any (Rows.packetEncodesSpec.pre6 enc Tryz.prog Tryz.f3 Rows.packetEncodesRow.domain false) (Rows.packetEncodesSpec.post enc Tryz.prog Tryz.f3 false true false false) := by
  refine returnsInHanded_of_change (C := Tryz.checked) own started (by kernel_rfl) func3
    (ChangeSpec.witness6 (enc := enc) (C := Tryz.checked) false ⟨#[], #[.slice none 0 0, .int .i64 0, .int .i64 0], []⟩ 8 (by kernel_rfl) (by kernel_rfl) (by kernel_rfl) (by kernel_rfl)) ?_
  intro W base args ds gs before hval0 hW hcnd _
  have hval : ∀ (j : Nat) t v, Tryz.f3.params[j]? = some t → args[j]? = some v → Value.okWide Tryz.prog W .any base t v := hval0
  have hW' := hW
  obtain ⟨p, q, hA0, hV, rfl, hfz, hnd⟩ := hW
  have hA : DataW.TrodAll enc Tryz.prog W 0 (fun _ => true) true Tryz.f3.params.toList args.toList ds p := hA0
  rw [Tryz.params3] at hA hval
  obtain ⟨v0, v1, v2, d0, d1, d2, p0, p1, p2, rfl, rfl, rfl, h0, h1, h2⟩ := trodAll_three hA
  obtain ⟨rfl, rfl⟩ := trodVars_none hV
  obtain ⟨a0, len0, cap0, hv0⟩ := okWide_slice Tryz.underlying22 (hval 0 22 v0 rfl rfl)
  have k0 := h0
  have lt0 : ∀ x ∈ p0, x.block < W.heap.size := by obtain ⟨m, hm⟩ := k0; exact DataW.trod_lt m _ _ _ hm
  obtain ⟨l, pp, oo, hR⟩ := rsh_of hv0 h0
  obtain ⟨a1, rfl, rfl, rfl, w1⟩ := open_int Tryz.underlying3 (hval 1 3 v1 rfl rfl) h1
  obtain ⟨a2, rfl, rfl, rfl, w2⟩ := open_int Tryz.underlying3 (hval 2 3 v2 rfl rfl) h2
  clear hA0 hval0
  refine (k_packetEncodes hR (sv := a1) (ov := a2) ⟨emp, W.os, W.output⟩ W (start W)).mono fun e W' ⟨x, he, _, hL⟩ => ?_
  subst he
  have bel := stay_of hL
  exact ⟨_, rfl, _, _, _, [], _, [], hW', trodAll_mk1 (shut_bool Tryz.underlying4 _), trodAll_mk3 (WideElems.Trod_stays laidOut (by kernel_rfl) (of_decide_eq_true (by kernel_rfl)) k0 (fun x hx => bel.same (lt0 x hx)) (fun x hx => by simpa using lt0 x hx)) (shut_int Tryz.underlying3 w1) (shut_int Tryz.underlying3 w2), rfl, bel.frame _, fun h => by cases h⟩
theorem proved : Rows.PacketEncodesSaid :=
  OpenClaim.holds_of_wide 3 Tryz.f3 rfl rfl rfl rfl rfl rfl rfl ⟨rfl, rfl, rfl, rfl, rfl⟩ rfl rfl rfl rfl rfl (by kernel_rfl) func3 (by kernel_rfl)
    (of_decide_eq_true (by kernel_rfl)) (by unfold Func.isWrapper; first | (rw [if_pos (by decide +kernel)]; kernel_rfl) | (rw [if_neg (by decide +kernel)]; exact ⟨rfl, rfl⟩))
    (fun os started H enc _ => lifted os started H enc)
end Go.Proofs.YtbmfgngjcpmjeaaGreat.Bridge
namespace Go.Proofs.YtbmfgngjcpmjeaaGreat
theorem packetEncodesProved : Rows.PacketEncodesSaid := Bridge.proved
#print axioms packetEncodesProved
end Go.Proofs.YtbmfgngjcpmjeaaGreat
