/-
  What a small reading says of a slice of answers: each element's texts are short. Its condition: the slice reads as the row says.
-/
import Derived.Test.YtgopcfkofjipjaaDoorS0
import Derived.Test.YtgopcfkofjipjaaDoorQC
namespace Go.Proofs.YtgopcfkofjipjaaDoor.R
open Go.ChangeShapes Go.WideShapes Go.ChangeAt Go.RowKit Go.Proofs.YtgopcfkofjipjaaDoor.H Go.Proofs.YtgopcfkofjipjaaDoorW.PrintWords Go.Proofs.YtgopcfkofjipjaaDoorW.PrintLast Go.Proofs.YtgopcfkofjipjaaDoorW.PrintMore
set_option linter.unusedVariables false
set_option linter.unusedSimpArgs false
theorem bulk_mem {H : Type} : ∀ (es : List (DataW H)) (y : DataW H), y ∈ es → Rows.uptoBulk y ≤ Rows.uptoBulkAll es
  | [], y, h => by simp at h
  | e :: es, y, h => by
    simp only [Rows.uptoBulkAll]
    rcases List.mem_cons.1 h with rfl | h
    · omega
    · have := bulk_mem es y h
      omega
theorem bndA_of {H : Type} {xs : List S29} {es rest : List (DataW H)} {d : DataW H} (hd : d = .nil ∧ xs = [] ∨ d = .slice es rest) (he : es.length = xs.length) (hg : ∀ (i : Nat) x y, xs[i]? = some x → es[i]? = some y → goodA x y) (h : Rows.uptoBulk d ≤ 1048576) :
    ∀ x ∈ xs, Pure.bndA x := fun x hx => by
  rcases hd with hd | hd
  · rw [hd.2] at hx
    simp at hx
  · subst hd
    simp only [Rows.uptoBulk] at h
    obtain ⟨i, hi, rfl⟩ := List.getElem_of_mem hx
    have hie : i < es.length := by omega
    have hgi := hg i xs[i] es[i] (List.getElem?_eq_getElem hi) (List.getElem?_eq_getElem hie)
    have hb := bulk_mem es es[i] (List.getElem_mem hie)
    have ok := okN_of he hg xs[i] hx
    obtain ⟨h0, _, _⟩ := hgi
    rw [h0] at hb
    have e1 : xs[i].f1.data.toList.length = xs[i].f1.size := Array.length_toList
    have e2 : xs[i].f2.data.toList.length = xs[i].f2.size := Array.length_toList
    have e3 : xs[i].f3.data.toList.length = xs[i].f3.size := Array.length_toList
    simp only [Rows.uptoBulk, Rows.uptoBulkAll, e1, e2, e3] at hb
    exact ⟨ok, by omega, by omega, by omega⟩
end Go.Proofs.YtgopcfkofjipjaaDoor.R
