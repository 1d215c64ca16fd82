/-
  ReplyOthers, plain. Its conditions: each number of its kind; texts of at most 2^20 bytes.
-/
import Derived.Test.YtgopcfkofjipjaaDoorQ0
import Derived.Test.YtgopcfkofjipjaaDoorHX28
namespace Go.Proofs.YtgopcfkofjipjaaDoor.Pure
open Go Go.RowKit Go.Proofs.YtgopcfkofjipjaaDoorW.PrintWords Go.Proofs.YtgopcfkofjipjaaDoor.H
set_option linter.unusedSimpArgs false
set_option linter.unusedVariables false

theorem evAll2 (a b : Ev34) (A B : ByteArray) (ha : reply_Bytes.f a.f0 a.f1 a.f2 a.f3 a.f4 a.f5 a.f6 = some (bytesOf A)) (hb : reply_Bytes.f b.f0 b.f1 b.f2 b.f3 b.f4 b.f5 b.f6 = some (bytesOf B)) (hA : A.size ≤ 10000000) (hB : B.size ≤ 10000000) :
    Ev (fun k => reply_All.f k [a, b]) (bytesOf A ++ bytesOf B) := by
  have l0 : (0 : Nat) + (bytesOf A).length < 140737488355328 := by rw [bytesOf_length]; omega
  have l1 : (bytesOf A).length + (bytesOf B).length < 140737488355328 := by rw [bytesOf_length, bytesOf_length]; omega
  have r0 : rd_T34 [a, b] 0 = a := rfl
  have r1 : rd_T34 [a, b] 1 = b := rfl
  have w0 : wrap64 ((0 : Int) + 1) = 1 := by unfold wrap64; omega
  have w1 : wrap64 ((1 : Int) + 1) = 2 := by unfold wrap64; omega
  have e2 : ([a, b] : List Ev34).length = 2 := rfl
  show Ev (fun k => reply_All.l0 k [] [a, b] (([a, b] : List Ev34).length : Int) 0) _
  rw [e2]
  refine Ev.step (fun k => reply_All.l0.eq_2 _ _ _ _ _) ?_
  simp only [e2, if_pos (show (0 : Int) < ((2 : Nat) : Int) by omega), if_pos (show (0 : Int) ≤ 0 by omega), r0, ha, Option.bind_some, List.length_nil, if_pos l0, w0, List.nil_append]
  refine Ev.step (fun k => reply_All.l0.eq_2 _ _ _ _ _) ?_
  simp only [e2, if_pos (show (1 : Int) < ((2 : Nat) : Int) by omega), if_pos (show (0 : Int) ≤ 1 by omega), r1, hb, Option.bind_some, if_pos l1, w1]
  refine Ev.step (fun k => reply_All.l0.eq_2 _ _ _ _ _) ?_
  simp only [if_neg (show ¬ (2 : Int) < ((2 : Nat) : Int) by omega)]
  exact Ev.now _
theorem others_j (v : Bool) (key data text : ByteArray) (fl cas : Int) (wc v' : Bool) (key' data' text' : ByteArray) (fl' cas' : Int) (wc' : Bool) (A : ByteArray)
    (ha : reply_Bytes.f v key data text fl cas wc = some (bytesOf A)) (hb : reply_Bytes.f v' key' data' text' fl' cas' wc' = some (bytesOf A)) (hA : A.size ≤ 10000000) :
    Ev (fun k => cellaretlaw19_ReplyOthers.j0 k v key data text fl cas wc v' key' data' text' fl' cas' wc') true := by
  refine Ev.step (fun k => cellaretlaw19_ReplyOthers.j0.eq_2 _ _ _ _ _ _ _ _ _ _ _ _ _ _ _) ?_
  simp only [ha, hb, Option.bind_some, if_true]
  refine Ev.bind (evAll2 ⟨v, key, data, text, fl, cas, wc⟩ ⟨v', key', data', text', fl', cas', wc'⟩ A A ha hb hA hA) ?_
  simp only [str_app, str_bytes, if_pos (show A.size + A.size ≤ 9223372036854775807 by omega), beq_self_eq_true]
  exact Ev.now _
theorem ReplyOthers (v : Bool) (key data text : ByteArray) (fl cas : Int) (wc : Bool) (hb : key.size ≤ 1048576 ∧ data.size ≤ 1048576 ∧ text.size ≤ 1048576 ∧ (0 ≤ fl ∧ fl < 4294967296) ∧ (0 ≤ cas ∧ cas < 18446744073709551616)) :
    ∃ k, cellaretlaw19_ReplyOthers.f k v key data text fl cas wc = some true := by
  obtain ⟨hk, hd, ht, hf, hc⟩ := hb
  refine Ev.rounds ?_
  unfold cellaretlaw19_ReplyOthers.f
  refine Ev.bind awakeEv ?_
  have hA := ansB_size v text key data fl.toNat cas.toNat wc (by omega) (by omega) (by omega)
  have h := bytes_eq v text key data fl.toNat cas.toNat wc (by omega) (by omega) (by omega) (by omega) (by omega)
  rw [Int.toNat_of_nonneg hf.1, Int.toNat_of_nonneg hc.1] at h
  have z : (⟨#[]⟩ : ByteArray).size ≤ 1000 := by show 0 ≤ _; omega
  simp only [if_true]
  cases v
  · simp only [Bool.false_eq_true, if_false]
    have h2 := bytes_eq false text (⟨#[]⟩ : ByteArray) (⟨#[]⟩ : ByteArray) 0 0 false (by omega) (by omega) (by omega) (by omega) (by omega)
    exact others_j _ _ _ _ _ _ _ _ _ _ _ _ _ _ _ h h2 (by omega)
  · simp only [if_true]
    have h2 := bytes_eq true (⟨#[]⟩ : ByteArray) key data fl.toNat cas.toNat wc (by omega) (by omega) (by omega) (by omega) (by omega)
    rw [Int.toNat_of_nonneg hf.1, Int.toNat_of_nonneg hc.1] at h2
    exact others_j _ _ _ _ _ _ _ _ _ _ _ _ _ _ _ h h2 (by omega)
end Go.Proofs.YtgopcfkofjipjaaDoor.Pure
