/-
  The law ReplyOthers holds: its card, out of the plain statement and the walk. Its condition: none beside the given row's own.
-/
import Derived.Test.YtgopcfkofjipjaaDoorR0
import Derived.Test.YtgopcfkofjipjaaDoorHX28
import Derived.Test.YtgopcfkofjipjaaDoorQ3
import Derived.Test.YtgopcfkofjipjaaDoorS1
import Derived.ShutString
import Derived.ChangeOld
import Derived.Below
import Derived.SizedLaws
import Derived.Carry
import Derived.ChangeSlices
namespace Go.Proofs.YtgopcfkofjipjaaDoor.replyOthers
open Go.ChangeShapes Go.WideShapes Go.ChangeAt Go.RowKit Go.Proofs.YtgopcfkofjipjaaDoor.R Go.Proofs.YtgopcfkofjipjaaDoor.H
open Go.ChangeMaps (open_string shut_string)
set_option linter.unusedVariables false
set_option linter.unusedSimpArgs false
set_option maxRecDepth 100000 in
theorem contract (H : Type) (enc : TypeId × Value → H) (W : World) (base : Nat) (args : Array Value) (ds gs : List (DataW H)) (before : List MemPlace)
    (hval0 : ∀ (j : Nat) t v, Tryd.f6.params[j]? = some t → args[j]? = some v → Value.okWide Tryd.prog W .any base t v)
    (hW : DataW.Whole enc Tryd.prog Tryd.f6.params.toList Rows.replyOthersSpec.vars false W args.toList ds gs before)
    (hsz0 : (DataW.weightsEach Tryd.prog (Tryd.f6.params.toList ++ Rows.replyOthersSpec.plain.varTypes Tryd.prog) (ds ++ gs)).all (· ≤ reachBytes) = true)
    (HLD : LaidA W) (HUP : Rows.uptoSmall H (ds ++ gs) = true) :
    Calls Tryd.prog 6 args W fun e W' => ∃ v, e = .returned v ∧ Rows.replyOthersSpec.post enc Tryd.prog Tryd.f6 false true false false W args v W' := by
  have hsz := hsz0
  have hval := hval0
  have hW' := hW
  obtain ⟨p, q, hA0, hV, rfl, hfz, hnd⟩ := hW
  have hA : DataW.TrodAll enc Tryd.prog W 0 (fun _ => true) true Tryd.f6.params.toList args.toList ds p := hA0
  rw [Tryd.params6] at hA hval hsz
  obtain ⟨v0, vs0, d0, ds0, p0, q0, hargs, rfl, rfl, h0, r0⟩ := trodAll_cons hA
  obtain ⟨rfl, rfl, rfl⟩ := trodAll_nil r0
  obtain rfl : args = #[v0] := by cases args; simp_all
  obtain ⟨rfl, rfl⟩ := trodVars_none hV
  have k0 := h0
  have lt0 : ∀ x ∈ p0, x.block < W.heap.size := by obtain ⟨m, hm⟩ := k0; exact DataW.trod_lt m _ _ _ hm
  obtain ⟨x0, rfl, hg0⟩ := open_answer (hval 0 34 v0 rfl rfl) h0
  have hbulk : Rows.uptoBulkAll _ ≤ 1048576 := of_decide_eq_true HUP
  simp only [List.cons_append, List.nil_append, Rows.uptoBulkAll] at hbulk
  have bd0 := boundE hg0 (by omega)
  clear hA0 hval0 hsz0 hsz
  obtain ⟨k, hk⟩ := Go.Proofs.YtgopcfkofjipjaaDoor.Pure.ReplyOthers x0.f0 x0.f1 x0.f2 x0.f3 x0.f4 x0.f5 x0.f6 bd0
  refine (Go.Proofs.YtgopcfkofjipjaaDoor.H.cellaretlaw19_ReplyOthers.calls k x0.f0 x0.f1 x0.f2 x0.f3 x0.f4 x0.f5 x0.f6 true rfl W HLD  hk).mono fun e W' ⟨he, bel⟩ => ?_
  subst he
  exact ⟨_, rfl, _, _, _, [], _, [], hW', trodAll_mk1 (shut_bool Tryd.underlying4 _), (trodAll_cons_mk (Below.trod laidOut (by kernel_rfl) (of_decide_eq_true (by kernel_rfl)) k0 bel lt0) trodAll_mk0), rfl, bel.frame _, fun h => by cases h⟩
theorem reads (os : Os) {H : Type} (enc : TypeId × Value → H) : ∃ places, DataW.whole enc Tryd.prog ((laidWorld os).forCall (fun _ _ => 0) ⟨#[], #[.agg #[.bool false, .string ByteArray.empty, .string ByteArray.empty, .string ByteArray.empty, .int .u32 0, .int .u64 0, .bool false]], []⟩).memory Tryd.f6.params.toList Rows.replyOthersSpec.vars false #[Value.agg #[.bool false, .string ByteArray.empty, .string ByteArray.empty, .string ByteArray.empty, .int .u32 0, .int .u64 0, .bool false]].toList 8 = some ([.agg [.lit (.bool false), .lit (.string []), .lit (.string []), .lit (.string []), .lit (.int .u32 0), .lit (.int .u64 0), .lit (.bool false)]], [], places) :=
  ⟨[], by kernel_rfl⟩
set_option maxRecDepth 100000 in
theorem lifted (os : Os) (started : os.Started) (H : Type) (enc : TypeId × Value → H) (F : Stop.Interp) :
    ReturnsInHanded {} Tryd.checked os 6 .any ((Rows.OpenSpec.upto Rows.replyOthersSpec).preRow enc Tryd.prog Tryd.f6 Rows.replyOthersUptoRow.domain false Rows.replyOthersUptoRow.laid) (((Rows.OpenSpec.upto Rows.replyOthersSpec).at F).post enc Tryd.prog Tryd.f6 false true false false) := by
  obtain ⟨places, hx⟩ := reads os enc
  refine returnsInHanded_of_row (C := Tryd.checked) (s := Rows.OpenSpec.upto Rows.replyOthersSpec) own started (by kernel_rfl) Tryd.func6
    (witness_row_atRef (enc := enc) (C := Tryd.checked) false (laidWorld os) #[.agg #[.bool false, .string ByteArray.empty, .string ByteArray.empty, .string ByteArray.empty, .int .u32 0, .int .u64 0, .bool false]] rfl (by kernel_rfl) (by kernel_rfl) (by kernel_rfl)
      (OpenSpec.preRow_of_cond 8 hx (by kernel_rfl) (fun k hk => by cases hk; kernel_rfl) (by kernel_rfl) (laid_met os _))) ?_
  intro W base args ds gs before hval hW _ hcond hsz hL hsh _
  exact contract H enc W base args ds gs before hval hW hsz (laidA_of hL hsh) (hcond _ rfl)
theorem said : Rows.ReplyOthersUptoSaid :=
  OpenClaim.holds_of_cond 6 Tryd.f6 rfl rfl rfl rfl rfl rfl rfl ⟨rfl, rfl, rfl, rfl, rfl⟩ rfl rfl rfl rfl rfl (by kernel_rfl) Tryd.func6 (by kernel_rfl)
    (of_decide_eq_true (by kernel_rfl)) (by unfold Func.isWrapper; first | (rw [if_pos (by decide +kernel)]; kernel_rfl) | (rw [if_neg (by decide +kernel)]; exact ⟨rfl, rfl⟩))
    (fun os started H enc _ F => by rw [OpenClaim.pre_eq_preRow]; exact lifted os started H enc F)
theorem plain (f : FuncId) (fn : Func) (hf : Tryd.pinned.checked.prog.funcNamed "cellaret/cellaretlaw19.ReplyOthers" = some f) (hfn : Tryd.pinned.checked.prog.funcs[f]? = some fn) :
    true = Tryd.pinned.checked.prog.looks [] ∧ ∀ (j : Nat) t, fn.params[j]? = some t → Tryd.pinned.checked.prog.wantsStandIn t = false := by
  obtain rfl : f = 6 := Option.some.inj ((show Tryd.prog.funcNamed "cellaret/cellaretlaw19.ReplyOthers" = some 6 by kernel_rfl).symm.trans hf) |>.symm
  obtain rfl : fn = Tryd.f6 := (Option.some.inj (Tryd.func6.symm.trans hfn)).symm
  refine ⟨by kernel_rfl, fun j t ht => ?_⟩
  rw [Tryd.params6] at ht
  have hm := Array.mem_of_getElem? ht
  have hm2 : t = 34 := by simpa using hm
  rcases hm2 with rfl
  · exact (show Tryd.prog.wantsStandIn 34 = false by kernel_rfl)
theorem card : Rows.ReplyOthersUptoCardSaid :=
  Claim7.holds_tied_plain_at .later [] _ _ _ _ said (fun _ h => by cases h) (by kernel_rfl) (fun _ h => by cases h) replyOthersUpto_row_tie rfl ⟨rfl, rfl⟩ (by kernel_rfl) rfl plain (by kernel_rfl)
#print axioms card
end Go.Proofs.YtgopcfkofjipjaaDoor.replyOthers
namespace Go.Proofs.YtgopcfkofjipjaaDoor
/-- The card, under a short name, for the claim. -/
theorem replyOthers_holds : Rows.ReplyOthersUptoCardSaid := replyOthers.card
end Go.Proofs.YtgopcfkofjipjaaDoor
