/- Graphs and whole numbers in a row that are handed in. -/
import Derived.Test.YtjfppkhaiooloaaGreatDoorBase
import Derived.Test.YtjfppkhaiooloaaGreatDoorAiArg
namespace Go.Proofs.YtjfppkhaiooloaaGreatDoor
open Go.AI Go.ChangeShapes Go.WideShapes Go.ChangeAt Go.RowKit
set_option maxRecDepth 100000
section
variable {H : Type} {enc : TypeId × Value → H} {W : World}
theorem el_int (n : Nat) (cs : List Value) (y : DataW H × List MemPlace) (h : DataW.trod enc Tryz.prog W 0 (fun _ => true) true n 3 cs = some y) : ∀ u ∈ cs, ∃ k : Int, u = .int .i64 k := by
  obtain ⟨k, rfl, _⟩ := DataW.trod_int Tryz.underlying3 h
  intro u hu
  exact ⟨k, by simpa using hu⟩
theorem el_edge (n : Nat) (cs : List Value) (y : DataW H × List MemPlace) (h : DataW.trod enc Tryz.prog W 0 (fun _ => true) true n 49 cs = some y) : ∀ u ∈ cs, ∃ k : Int, u = .int .i64 k := by
  obtain ⟨y0, y1, m, _, hl, e0, e1⟩ := trod_struct2 Tryz.underlying49 h
  have c3 : Tryz.prog.cellsOf 3 = 1 := by kernel_rfl
  have c49 : Tryz.prog.cellsOf 49 = 2 := by kernel_rfl
  simp only [c3] at e0 e1
  obtain ⟨a, ha, _⟩ := DataW.trod_int Tryz.underlying3 e0
  obtain ⟨b, hb, _⟩ := DataW.trod_int Tryz.underlying3 e1
  rw [c49] at hl
  match cs, hl with
  | [u, w], _ =>
    simp at ha hb
    intro x hx
    simp at hx
    rcases hx with rfl | rfl
    · exact ⟨a, ha⟩
    · exact ⟨b, hb⟩

/-- A row of whole numbers. -/
theorem ints_arg {r : Reach} {b0 : Nat} {v : Value} {d : DataW H} {ps : List MemPlace} (hval : Value.okWide Tryz.prog W r b0 26 v) (hd : DataW.Trod enc Tryz.prog W 0 (fun _ => true) true 26 v d ps) (h0 : ∃ cs elem fr, W.heap[0]? = some (.cells cs elem fr)) :
    ∃ (l : Go.AI.Loc) (c : List Int) (z : Bool), (∀ LR μ, ObjR LR μ W (.cells (ints c)) true l) ∧ (z = true → c.length = 0) ∧ (∀ i (μ : Mu), μ i = some l → VR μ (absS z i 1 c.length) v) ∧ (c.length = 0 ∨ ∃ es rest, d = .slice es rest ∧ es.length = c.length) := by
  have hv : Cell.okWide Tryz.prog W r b0 26 v := by
    unfold Value.okWide at hval; rw [Tryz.underlying26] at hval; exact hval
  obtain ⟨fuel, hd⟩ := hd
  obtain ⟨a, len, cap, rfl⟩ := okWide_slice Tryz.underlying26 hval
  have c3 : Tryz.prog.cellsOf 3 = 1 := by kernel_rfl
  obtain ⟨l, vs, n, z, h1, h2, h3, h4, h5, h6⟩ := slice_arg (size := 1) Tryz.underlying26 c3 (by omega) hv (by simpa [Value.cells] using hd) h0 el_int
  obtain ⟨c, rfl⟩ := ints_of h3
  have hn : n = c.length := by rw [ints_length] at h2; omega
  subst hn
  exact ⟨l, c, z, h1, h4, h5, h6⟩

theorem ct24 : Tryz.prog.cellTypes Tryz.prog.depth 24 = some [3, 22] := by kernel_rfl
/-- A graph. -/
theorem graph_arg {r : Reach} {b0 : Nat} {v : Value} {d : DataW H} {ps : List MemPlace} (hval : Value.okWide Tryz.prog W r b0 24 v) (hd : DataW.Trod enc Tryz.prog W 0 (fun _ => true) true 24 v d ps) (h0 : ∃ cs elem fr, W.heap[0]? = some (.cells cs elem fr)) :
    ∃ (m : Int) (sv : Value) (l : Go.AI.Loc) (es : List (Int × Int)) (z : Bool), v = .agg #[.int .i64 m, sv] ∧ (∀ LR μ, ObjR LR μ W (.cells (pairs es)) true l) ∧ (z = true → es.length = 0) ∧ (∀ i (μ : Mu), μ i = some l → VR μ (absS z i 2 es.length) sv) ∧
      (es.length = 0 ∨ ∃ dn xs rest, d = .agg [dn, .slice xs rest] ∧ xs.length = es.length) := by
  have hval' := hval
  unfold Value.okWide at hval'
  rw [Tryz.underlying24] at hval'
  obtain ⟨cs, rfl, hs, ts, hts, _, hrow⟩ := hval'
  rw [ct24] at hts
  cases hts
  have c24 : Tryz.prog.cellsOf 24 = 2 := by kernel_rfl
  have c3 : Tryz.prog.cellsOf 3 = 1 := by kernel_rfl
  have c22 : Tryz.prog.cellsOf 22 = 1 := by kernel_rfl
  have c49 : Tryz.prog.cellsOf 49 = 2 := by kernel_rfl
  rw [c24] at hs
  obtain ⟨fuel, hd⟩ := hd
  obtain ⟨y0, y1, k, he, hl, e0, e1⟩ := trod_struct2 Tryz.underlying24 hd
  obtain ⟨u, w, rfl⟩ : ∃ u w, cs = #[u, w] := by
    obtain ⟨csl⟩ := cs
    match csl, hs with
    | [u, w], _ => exact ⟨u, w, rfl⟩
  obtain ⟨ty, hty, hw⟩ := hrow 1 w rfl
  simp at hty
  subst hty
  simp only [c3, c22] at e0 e1
  have e0 : DataW.trod enc Tryz.prog W 0 (fun _ => true) true k 3 [u] = some y0 := by simpa [Value.cells] using e0
  have e1 : DataW.trod enc Tryz.prog W 0 (fun _ => true) true k 22 [w] = some y1 := by simpa [Value.cells] using e1
  obtain ⟨m, hm, _⟩ := DataW.trod_int Tryz.underlying3 e0
  simp at hm
  subst hm
  obtain ⟨d1, p1⟩ := y1
  obtain ⟨l, vs, n, z, h1, h2, h3, h4, h5, h6⟩ := slice_arg (size := 2) Tryz.underlying22 c49 (by omega) hw e1 h0 el_edge
  obtain ⟨es, rfl, rfl⟩ := pairs_of h2 h3
  refine ⟨m, w, l, es, z, rfl, h1, h4, h5, ?_⟩
  simp only [Prod.mk.injEq] at he
  obtain ⟨rfl, _⟩ := he
  rcases h6 with h6 | ⟨xs, rest, rfl, h7⟩
  · exact .inl h6
  · exact .inr ⟨_, xs, rest, rfl, h7⟩
end
end Go.Proofs.YtjfppkhaiooloaaGreatDoor
