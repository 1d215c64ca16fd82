/-
  An argument that is a slice of answers, as the walks read it: its elements' fields, each in its bounds. Its condition: it reads as the row says.
-/
import Derived.Test.YtgopcfkofjipjaaDoorR0
import Derived.ChangeArms
import Derived.DataReads
import Derived.SizedLaws
import Derived.Carry
import Derived.Test.YtgopcfkofjipjaaDoorQ0
namespace Go.Proofs.YtgopcfkofjipjaaDoor.R
open Go.ChangeShapes Go.WideShapes Go.ChangeAt Go.RowKit Go.Proofs.YtgopcfkofjipjaaDoor.H Go.Proofs.YtgopcfkofjipjaaDoorW.PrintWords Go.Proofs.YtgopcfkofjipjaaDoorW.PrintLast Go.Proofs.YtgopcfkofjipjaaDoorW.PrintMore
set_option linter.unusedVariables false
set_option linter.unusedSimpArgs false
section
variable {H : Type} {enc : TypeId × Value → H} {P : Program} {w : World} {base : Nat} {spare : Nat → Bool} {held : Bool}
theorem open_slice_of {α : Type} (K : Kd α) {t e : TypeId} (ht : P.underlying t = some (.slice e)) (hsz : P.cellsOf e = K.sz) (good : α → DataW H → Prop)
    (hopen : ∀ n cs y, cs.length = K.sz → DataW.trod enc P w base spare held n e cs = some y → ∃ x : α, K.K w x cs ∧ good x y.1)
    {a : Option Addr} {len cap : Nat} {d : DataW H} {ps : List MemPlace} (h : DataW.Trod enc P w base spare held t (.slice a len cap) d ps) :
    ∃ xs : List α, len = xs.length ∧ len ≤ cap ∧ K.C w a xs.length xs ∧ ∃ es rest : List (DataW H), (d = .nil ∧ xs = [] ∨ d = .slice es rest) ∧ es.length = xs.length ∧ ∀ (i : Nat) x y, xs[i]? = some x → es[i]? = some y → good x y := by
  obtain ⟨fuel, hf⟩ := h
  rcases DataW.trod_slice ht hf with ⟨hcs, hx⟩ | ⟨ad, l, c, elems, rest, n, _, hcs, hx, hb, hl, hm, hlen, hel, _, _⟩
  · simp [Value.cells] at hcs
    obtain ⟨rfl, rfl, rfl⟩ := hcs
    exact ⟨[], rfl, Nat.le_refl _, Kd.C_nil K w, [], [], .inl ⟨(Prod.mk.inj hx).1, rfl⟩, rfl, fun i x y hi => by simp at hi⟩
  · simp [Value.cells] at hcs
    obtain ⟨rfl, rfl, rfl⟩ := hcs
    have each : ∀ i : Fin len, ∃ x : α, (∃ cs, cs.length = K.sz ∧ (∀ k, k < K.sz → w.cell? ((ad.add (i.1 * K.sz)).add k) = cs[k]?) ∧ K.K w x cs) ∧ ∀ y, elems[i.1]? = some y → good x y.1 := fun i => by
      have h1 := hel i.1 i.2
      have hy : elems[i.1]? = some (elems[i.1]'(by rw [hlen]; exact i.2)) := List.getElem?_eq_getElem _
      rw [hy, Option.bind_eq_some_iff] at h1
      obtain ⟨cs, hc, h2⟩ := h1
      rw [hsz] at hc
      obtain ⟨_, hcl, hcell⟩ := World.cells?_some hc
      obtain ⟨x, hK, hg⟩ := hopen n cs _ hcl h2
      refine ⟨x, ⟨cs, hcl, hcell, hK⟩, fun y hy2 => ?_⟩
      rw [hy] at hy2
      rw [← Option.some.inj hy2]
      exact hg
    have hlm : len ≤ 9223372036854775807 := by simp only [maxLen] at hm; omega
    refine ⟨List.ofFn fun i : Fin len => Classical.choose (each i), by simp, hl, ⟨rfl, by simpa using hlm, fun _ => ⟨ad, rfl, fun j p hj => ?_⟩⟩, elems.map (·.1), rest.map (·.1), .inr (Prod.mk.inj hx).1, by simp [hlen], fun i x y hi hy => ?_⟩
    · have hjl : j < len := by have := (List.getElem?_eq_some_iff.1 hj).1; simpa using this
      rw [List.getElem?_ofFn, dif_pos hjl] at hj
      obtain rfl := Option.some.inj hj
      obtain ⟨⟨cs, hcl, hcell, hK⟩, _⟩ := Classical.choose_spec (each ⟨j, hjl⟩)
      refine ⟨cs, hcl, hK, fun k u hu => ?_⟩
      have hk : k < K.sz := by have := (List.getElem?_eq_some_iff.1 hu).1; omega
      have := hcell k hk
      rw [hu] at this
      rw [← this]
      congr 1
      unfold Addr.add
      (repeat' split) <;> simp_all <;> omega
    · have hil : i < len := by have := (List.getElem?_eq_some_iff.1 hi).1; simpa using this
      rw [List.getElem?_ofFn, dif_pos hil] at hi
      obtain rfl := Option.some.inj hi
      rw [List.getElem?_map, Option.map_eq_some_iff] at hy
      obtain ⟨y0, hy0, rfl⟩ := hy
      exact (Classical.choose_spec (each ⟨i, hil⟩)).2 y0 hy0
end
section
variable {H : Type} {enc : TypeId × Value → H} {w : World} {base : Nat} {spare : Nat → Bool} {held : Bool}
def goodA (x : S29) (y : DataW H) : Prop :=
  y = .agg [.lit (.bool x.f0), .lit (.string x.f1.data.toList), .lit (.string x.f2.data.toList), .lit (.string x.f3.data.toList), .lit (.int .u32 x.f4), .lit (.int .u64 x.f5), .lit (.bool x.f6)] ∧ (Lit.int .u32 x.f4).wf = true ∧ (Lit.int .u64 x.f5).wf = true
theorem open_ans (n : Nat) (cs : List Value) (y : DataW H × List MemPlace) (hl : cs.length = 7) (h : DataW.trod enc Tryd.prog w base spare held n 29 cs = some y) :
    ∃ x : S29, k29.K w x cs ∧ goodA x y.1 := by
  obtain ⟨xs, m, _, rfl, _, hxl, hf⟩ := DataW.trod_struct Tryd.underlying29 h
  obtain ⟨c0, c1, c2, c3, c4, c5, c6, rfl⟩ : ∃ c0 c1 c2 c3 c4 c5 c6, cs = [c0, c1, c2, c3, c4, c5, c6] := by
    rcases cs with _ | ⟨c0, _ | ⟨c1, _ | ⟨c2, _ | ⟨c3, _ | ⟨c4, _ | ⟨c5, _ | ⟨c6, _ | ⟨c7, r⟩⟩⟩⟩⟩⟩⟩⟩ <;> simp at hl
    exact ⟨_, _, _, _, _, _, _, rfl⟩
  obtain ⟨x0, x1, x2, x3, x4, x5, x6, rfl⟩ : ∃ x0 x1 x2 x3 x4 x5 x6, xs = [x0, x1, x2, x3, x4, x5, x6] := by
    rcases xs with _ | ⟨c0, _ | ⟨c1, _ | ⟨c2, _ | ⟨c3, _ | ⟨c4, _ | ⟨c5, _ | ⟨c6, _ | ⟨c7, r⟩⟩⟩⟩⟩⟩⟩⟩ <;> simp at hxl
    exact ⟨_, _, _, _, _, _, _, rfl⟩
  have e1 : Tryd.prog.cellsOf 4 = 1 := by kernel_rfl
  have e2 : Tryd.prog.cellsOf 9 = 1 := by kernel_rfl
  have e3 : Tryd.prog.cellsOf 26 = 1 := by kernel_rfl
  have e4 : Tryd.prog.cellsOf 27 = 1 := by kernel_rfl
  have h0 : DataW.trod enc Tryd.prog w base spare held m 4 ((([c0, c1, c2, c3, c4, c5, c6] : List Value).drop 0).take (Tryd.prog.cellsOf 4)) = some x0 := hf 0 _ rfl
  have h1 : DataW.trod enc Tryd.prog w base spare held m 9 ((([c0, c1, c2, c3, c4, c5, c6] : List Value).drop 1).take (Tryd.prog.cellsOf 9)) = some x1 := hf 1 _ rfl
  have h2 : DataW.trod enc Tryd.prog w base spare held m 9 ((([c0, c1, c2, c3, c4, c5, c6] : List Value).drop 2).take (Tryd.prog.cellsOf 9)) = some x2 := hf 2 _ rfl
  have h3 : DataW.trod enc Tryd.prog w base spare held m 9 ((([c0, c1, c2, c3, c4, c5, c6] : List Value).drop 3).take (Tryd.prog.cellsOf 9)) = some x3 := hf 3 _ rfl
  have h4 : DataW.trod enc Tryd.prog w base spare held m 26 ((([c0, c1, c2, c3, c4, c5, c6] : List Value).drop 4).take (Tryd.prog.cellsOf 26)) = some x4 := hf 4 _ rfl
  have h5 : DataW.trod enc Tryd.prog w base spare held m 27 ((([c0, c1, c2, c3, c4, c5, c6] : List Value).drop 5).take (Tryd.prog.cellsOf 27)) = some x5 := hf 5 _ rfl
  have h6 : DataW.trod enc Tryd.prog w base spare held m 4 ((([c0, c1, c2, c3, c4, c5, c6] : List Value).drop 6).take (Tryd.prog.cellsOf 4)) = some x6 := hf 6 _ rfl
  rw [e1] at h0
  rw [e2] at h1
  rw [e2] at h2
  rw [e2] at h3
  rw [e3] at h4
  rw [e4] at h5
  rw [e1] at h6
  obtain ⟨b0, hb0, rfl⟩ := DataW.trod_bool Tryd.underlying4 h0
  obtain ⟨s1, hs1, rfl, _⟩ := DataW.trod_string Tryd.underlying9 h1
  obtain ⟨s2, hs2, rfl, _⟩ := DataW.trod_string Tryd.underlying9 h2
  obtain ⟨s3, hs3, rfl, _⟩ := DataW.trod_string Tryd.underlying9 h3
  obtain ⟨n4, hn4, rfl, w4⟩ := DataW.trod_int Tryd.underlying26 h4
  obtain ⟨n5, hn5, rfl, w5⟩ := DataW.trod_int Tryd.underlying27 h5
  obtain ⟨b6, hb6, rfl⟩ := DataW.trod_bool Tryd.underlying4 h6
  obtain rfl := (List.cons.inj hb0).1
  obtain rfl := (List.cons.inj hs1).1
  obtain rfl := (List.cons.inj hs2).1
  obtain rfl := (List.cons.inj hs3).1
  obtain rfl := (List.cons.inj hn4).1
  obtain rfl := (List.cons.inj hn5).1
  obtain rfl := (List.cons.inj hb6).1
  exact ⟨⟨b0, s1, s2, s3, n4, n5, b6⟩, k29_mk w ⟨b0, s1, s2, s3, n4, n5, b6⟩, ⟨rfl, w4, w5⟩⟩
end
theorem laidOut : laidOutB Tryd.prog = true := by kernel_rfl
theorem u32_of {n : Int} (h : (Lit.int .u32 n).wf = true) : 0 ≤ n ∧ n < 4294967296 := by
  have e1 : IntKind.u32.min = 0 := rfl
  have e2 : IntKind.u32.max = 4294967295 := rfl
  simp [Lit.wf, e1, e2] at h
  omega
theorem u64_of {n : Int} (h : (Lit.int .u64 n).wf = true) : 0 ≤ n ∧ n < 18446744073709551616 := by
  have e1 : IntKind.u64.min = 0 := rfl
  have e2 : IntKind.u64.max = 18446744073709551615 := rfl
  simp [Lit.wf, e1, e2] at h
  omega
theorem okN_of {H : Type} {xs : List S29} {es : List (DataW H)} (he : es.length = xs.length) (hg : ∀ (i : Nat) x y, xs[i]? = some x → es[i]? = some y → goodA x y) : ∀ x ∈ xs, Pure.okN x := fun x hx => by
  obtain ⟨i, hi, rfl⟩ := List.getElem_of_mem hx
  obtain ⟨_, h4, h5⟩ := hg i xs[i] (es[i]'(by omega)) (List.getElem?_eq_getElem hi) (List.getElem?_eq_getElem (by omega))
  exact ⟨(u32_of h4).1, (u32_of h4).2, (u64_of h5).1, (u64_of h5).2⟩
end Go.Proofs.YtgopcfkofjipjaaDoor.R
