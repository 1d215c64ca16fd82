/-
  An argument that is an answer, by value, as the walks read it: its fields, each in its bounds. Its condition: it reads as the row says.
-/
import Derived.Test.YtgopcfkofjipjaaDoorS0
namespace Go.Proofs.YtgopcfkofjipjaaDoor.R
open Go.ChangeShapes Go.WideShapes Go.ChangeAt Go.RowKit Go.Proofs.YtgopcfkofjipjaaDoor.H Go.Proofs.YtgopcfkofjipjaaDoorW.PrintWords Go.Proofs.YtgopcfkofjipjaaDoorW.PrintLast Go.Proofs.YtgopcfkofjipjaaDoorW.PrintMore
set_option linter.unusedVariables false
set_option linter.unusedSimpArgs false
section
variable {H : Type} {enc : TypeId × Value → H} {w : World} {base : Nat} {spare : Nat → Bool} {held : Bool}
def goodE (x : S34) (y : DataW H) : Prop :=
  y = .agg [.lit (.bool x.f0), .lit (.string x.f1.data.toList), .lit (.string x.f2.data.toList), .lit (.string x.f3.data.toList), .lit (.int .u32 x.f4), .lit (.int .u64 x.f5), .lit (.bool x.f6)] ∧ (Lit.int .u32 x.f4).wf = true ∧ (Lit.int .u64 x.f5).wf = true
theorem open_event (n : Nat) (cs : List Value) (y : DataW H × List MemPlace) (hl : cs.length = 7) (h : DataW.trod enc Tryd.prog w base spare held n 34 cs = some y) :
    ∃ x : S34, cs = [.bool x.f0, .string x.f1, .string x.f2, .string x.f3, .int .u32 x.f4, .int .u64 x.f5, .bool x.f6] ∧ goodE x y.1 := by
  obtain ⟨xs, m, _, rfl, _, hxl, hf⟩ := DataW.trod_struct Tryd.underlying34 h
  obtain ⟨c0, c1, c2, c3, c4, c5, c6, rfl⟩ : ∃ c0 c1 c2 c3 c4 c5 c6, cs = [c0, c1, c2, c3, c4, c5, c6] := by
    rcases cs with _ | ⟨c0, _ | ⟨c1, _ | ⟨c2, _ | ⟨c3, _ | ⟨c4, _ | ⟨c5, _ | ⟨c6, _ | ⟨c7, r⟩⟩⟩⟩⟩⟩⟩⟩ <;> simp at hl
    exact ⟨_, _, _, _, _, _, _, rfl⟩
  obtain ⟨x0, x1, x2, x3, x4, x5, x6, rfl⟩ : ∃ x0 x1 x2 x3 x4 x5 x6, xs = [x0, x1, x2, x3, x4, x5, x6] := by
    rcases xs with _ | ⟨c0, _ | ⟨c1, _ | ⟨c2, _ | ⟨c3, _ | ⟨c4, _ | ⟨c5, _ | ⟨c6, _ | ⟨c7, r⟩⟩⟩⟩⟩⟩⟩⟩ <;> simp at hxl
    exact ⟨_, _, _, _, _, _, _, rfl⟩
  have e1 : Tryd.prog.cellsOf 4 = 1 := by kernel_rfl
  have e2 : Tryd.prog.cellsOf 9 = 1 := by kernel_rfl
  have e3 : Tryd.prog.cellsOf 26 = 1 := by kernel_rfl
  have e4 : Tryd.prog.cellsOf 27 = 1 := by kernel_rfl
  have h0 : DataW.trod enc Tryd.prog w base spare held m 4 ((([c0, c1, c2, c3, c4, c5, c6] : List Value).drop 0).take (Tryd.prog.cellsOf 4)) = some x0 := hf 0 _ rfl
  have h1 : DataW.trod enc Tryd.prog w base spare held m 9 ((([c0, c1, c2, c3, c4, c5, c6] : List Value).drop 1).take (Tryd.prog.cellsOf 9)) = some x1 := hf 1 _ rfl
  have h2 : DataW.trod enc Tryd.prog w base spare held m 9 ((([c0, c1, c2, c3, c4, c5, c6] : List Value).drop 2).take (Tryd.prog.cellsOf 9)) = some x2 := hf 2 _ rfl
  have h3 : DataW.trod enc Tryd.prog w base spare held m 9 ((([c0, c1, c2, c3, c4, c5, c6] : List Value).drop 3).take (Tryd.prog.cellsOf 9)) = some x3 := hf 3 _ rfl
  have h4 : DataW.trod enc Tryd.prog w base spare held m 26 ((([c0, c1, c2, c3, c4, c5, c6] : List Value).drop 4).take (Tryd.prog.cellsOf 26)) = some x4 := hf 4 _ rfl
  have h5 : DataW.trod enc Tryd.prog w base spare held m 27 ((([c0, c1, c2, c3, c4, c5, c6] : List Value).drop 5).take (Tryd.prog.cellsOf 27)) = some x5 := hf 5 _ rfl
  have h6 : DataW.trod enc Tryd.prog w base spare held m 4 ((([c0, c1, c2, c3, c4, c5, c6] : List Value).drop 6).take (Tryd.prog.cellsOf 4)) = some x6 := hf 6 _ rfl
  rw [e1] at h0
  rw [e2] at h1
  rw [e2] at h2
  rw [e2] at h3
  rw [e3] at h4
  rw [e4] at h5
  rw [e1] at h6
  obtain ⟨b0, hb0, rfl⟩ := DataW.trod_bool Tryd.underlying4 h0
  obtain ⟨s1, hs1, rfl, _⟩ := DataW.trod_string Tryd.underlying9 h1
  obtain ⟨s2, hs2, rfl, _⟩ := DataW.trod_string Tryd.underlying9 h2
  obtain ⟨s3, hs3, rfl, _⟩ := DataW.trod_string Tryd.underlying9 h3
  obtain ⟨n4, hn4, rfl, w4⟩ := DataW.trod_int Tryd.underlying26 h4
  obtain ⟨n5, hn5, rfl, w5⟩ := DataW.trod_int Tryd.underlying27 h5
  obtain ⟨b6, hb6, rfl⟩ := DataW.trod_bool Tryd.underlying4 h6
  obtain rfl := (List.cons.inj hb0).1
  obtain rfl := (List.cons.inj hs1).1
  obtain rfl := (List.cons.inj hs2).1
  obtain rfl := (List.cons.inj hs3).1
  obtain rfl := (List.cons.inj hn4).1
  obtain rfl := (List.cons.inj hn5).1
  obtain rfl := (List.cons.inj hb6).1
  exact ⟨⟨b0, s1, s2, s3, n4, n5, b6⟩, rfl, ⟨rfl, w4, w5⟩⟩
/-- What a small reading says of its texts. -/
theorem boundE {x : S34} {d : DataW H} (hg : goodE x d) (h : Rows.uptoBulk d ≤ 1048576) :
    x.f1.size ≤ 1048576 ∧ x.f2.size ≤ 1048576 ∧ x.f3.size ≤ 1048576 ∧ (0 ≤ x.f4 ∧ x.f4 < 4294967296) ∧ (0 ≤ x.f5 ∧ x.f5 < 18446744073709551616) := by
  obtain ⟨rfl, w4, w5⟩ := hg
  have e1 : x.f1.data.toList.length = x.f1.size := Array.length_toList
  have e2 : x.f2.data.toList.length = x.f2.size := Array.length_toList
  have e3 : x.f3.data.toList.length = x.f3.size := Array.length_toList
  simp only [Rows.uptoBulk, Rows.uptoBulkAll, e1, e2, e3] at h
  exact ⟨by omega, by omega, by omega, u32_of w4, u64_of w5⟩
set_option maxRecDepth 100000 in
theorem open_answer {r : Reach} {b0 : Nat} {v : Value} {d : DataW H} {ps : List MemPlace} (hv : Value.okWide Tryd.prog w r b0 34 v) (h : DataW.Trod enc Tryd.prog w base spare held 34 v d ps) :
    ∃ x : S34, v = .agg #[.bool x.f0, .string x.f1, .string x.f2, .string x.f3, .int .u32 x.f4, .int .u64 x.f5, .bool x.f6] ∧ goodE x d := by
  obtain ⟨cs, rfl, hsz⟩ := okWide_struct Tryd.underlying34 hv
  obtain ⟨fuel, hf⟩ := h
  have e7 : Tryd.prog.cellsOf 34 = 7 := by kernel_rfl
  obtain ⟨x, hx, hg⟩ := open_event fuel cs.toList (d, ps) (by rw [Array.length_toList, hsz, e7]) hf
  exact ⟨x, congrArg Value.agg (Array.toList_inj.1 hx), hg⟩
end
end Go.Proofs.YtgopcfkofjipjaaDoor.R
