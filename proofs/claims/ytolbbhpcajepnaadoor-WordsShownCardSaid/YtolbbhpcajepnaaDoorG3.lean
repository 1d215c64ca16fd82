/-
  words.Number answers what numF says, for every text. Its condition: strconv's two error variables are laid.
-/
import Derived.Test.YtolbbhpcajepnaaDoorG2
import Derived.LoopTactic
import Derived.Deep.LoopGhost
import Derived.Deep.QuietTactic
import Derived.BigQuiet
import Derived.WalkSpells
import Derived.Lib.AtoiErrMem
import Derived.Shelf.Pu.ErrVarParseUint
import Derived.WalkLawsBesides
namespace Go.Proofs.YtolbbhpcajepnaaDoor.H
open Go.RowKit Go.Proofs.YtolbbhpcajepnaaDoorW.PrintWords
set_option linter.unusedVariables false

def isDig (c : UInt8) : Bool := 48 ≤ c.toNat && c.toNat ≤ 57
/-- What Number tells. -/
def numF (l : List UInt8) : Int × Bool :=
  if l.length < 1 ∨ 20 < l.length then (0, false)
  else if l.all isDig = true then
    match Lib.parseUintB 64 l with
    | .ok u => ((u : Int), true)
    | _ => (0, false)
  else (0, false)
def words_Number.f (a0 : ByteArray) : Option (Int × Bool) := some (numF a0.data.toList)

theorem num_long (s : ByteArray) (h : s.size < 1 ∨ 20 < s.size) : numF s.data.toList = (0, false) := by
  unfold numF; rw [if_pos (by simpa using h)]

/-- A byte that is no digit at k. -/
theorem num_bad (s : ByteArray) (h : ¬ (s.size < 1 ∨ 20 < s.size)) (k : Nat) (hk : k < s.size) (hb : (s[k]'hk).toNat < 48 ∨ 57 < (s[k]'hk).toNat) : numF s.data.toList = (0, false) := by
  unfold numF
  rw [if_neg (by simpa using h), if_neg]
  intro ha
  have h1 := List.all_eq_true.1 ha (s[k]'hk) (by
    show s.data[k]'hk ∈ s.data.toList
    exact Array.mem_toList_iff.2 (Array.getElem_mem hk))
  simp [isDig] at h1
  omega
theorem num_good (s : ByteArray) (h : ¬ (s.size < 1 ∨ 20 < s.size)) (hd : ∀ k, (hk : k < s.size) → 48 ≤ (s[k]'hk).toNat ∧ (s[k]'hk).toNat ≤ 57) :
    numF s.data.toList = match Lib.parseUintB 64 s.data.toList with | .ok u => ((u : Int), true) | _ => (0, false) := by
  unfold numF
  rw [if_neg (by simpa using h), if_pos]
  refine List.all_eq_true.2 fun c hc => ?_
  obtain ⟨k, hk, rfl⟩ := List.getElem_of_mem hc
  have := hd k (by simpa using hk)
  simp [isDig]
  exact this

theorem ret_num {s : ByteArray} {a : Int} {b : Bool} (h : numF s.data.toList = (a, b)) : Ending.returned (.tuple #[.int .u64 a, .bool b]) = .returned (.tuple #[.int .u64 (numF s.data.toList).1, .bool (numF s.data.toList).2]) := by rw [h]

set_option maxHeartbeats 1000000 in
set_option maxRecDepth 100000 in
theorem number_walk (s : ByteArray) (w : World) (HLD : LaidA w) :
    Calls Tryd.prog 14 #[.string s] w fun e w' => e = .returned (.tuple #[.int .u64 (numF s.data.toList).1, .bool (numF s.data.toList).2]) ∧ Below w.heap.size w w' := by
  by_cases h1 : s.size < 1
  · have Hn := Aside0.mk (num_long s (.inl h1))
    have d1 : decide (s.size < 1) = true := by simpa using h1
    go_enter Tryd.func14, Tryd.ntmps14
    go_wp2
    go_ret2
    exact ⟨ret_num Hn.out, Below.refl _ _⟩
  · by_cases h20 : 20 < s.size
    · have Hn := Aside0.mk (num_long s (.inr h20))
      have d1 : decide (s.size < 1) = false := by simpa using h1
      have d2 : decide (20 < s.size) = true := by simpa using h20
      go_enter Tryd.func14, Tryd.ntmps14
      go_wp2
      go_ret2
      exact ⟨ret_num Hn.out, Below.refl _ _⟩
    · have Hb := Aside0.mk (num_bad s (by omega))
      have Hg := Aside0.mk (num_good s (by omega))
      have d1 : decide (s.size < 1) = false := by simpa using h1
      have d2 : decide (20 < s.size) = false := by simpa using h20
      go_enter Tryd.func14, Tryd.ntmps14
      go_wp2
      go_loop [4] (fun i => ∃ k : Nat, k ≤ s.size ∧ i = .int .i64 k ∧ Aside0 (∀ j, (hj : j < s.size) → j < k → 48 ≤ (s[j]'hj).toNat ∧ (s[j]'hj).toNat ≤ 57)) (fun i => s.size - (intOf i).toNat)
      case atStart => exact ⟨0, Nat.zero_le _, rfl, ⟨fun j hj h => absurd h (Nat.not_lt_zero _)⟩⟩
      case round =>
        obtain ⟨k, hk, rfl, HA⟩ := hrel
        by_cases hlt : k < s.size
        · by_cases c1 : (s[k]'hlt).toNat < 48
          · have e1 : decide (((s[k]'hlt).toNat : Int) < 48) = true := decide_eq_true (by omega)
            have Hn := Aside0.mk (Hb.out k hlt (.inl c1))
            go_wp2
            go_ret2
            exact ⟨ret_num Hn.out, Below.refl _ _⟩
          · have e1 : decide (((s[k]'hlt).toNat : Int) < 48) = false := decide_eq_false (by omega)
            by_cases c2 : 57 < (s[k]'hlt).toNat
            · have e2 : decide (57 < ((s[k]'hlt).toNat : Int)) = true := decide_eq_true (by omega)
              have Hn := Aside0.mk (Hb.out k hlt (.inr c2))
              go_wp2
              go_ret2
              exact ⟨ret_num Hn.out, Below.refl _ _⟩
            · have e2 : decide (57 < ((s[k]'hlt).toNat : Int)) = false := decide_eq_false (by omega)
              have HB : Aside0 (48 ≤ (s[k]'hlt).toNat ∧ (s[k]'hlt).toNat ≤ 57) := ⟨by omega⟩
              go_wp2
              go_round
              case rel =>
                refine ⟨k + 1, by omega, by go_num, ⟨fun j hj hjk => ?_⟩⟩
                by_cases e : j = k
                · subst e; exact HB.out
                · exact HA.out j hj (by omega)
              case measure => simp [intOf]; omega
        · have Hn0 := Hg.out (fun j hj => HA.out j hj (by omega))
          have hs48 : s.size ≤ 281474976710656 := by omega
          have hmax : s.size ≤ 9223372036854775806 := by omega
          rcases hp : Lib.parseUintB 64 s.data.toList with u | _ | _
          ·
            rw [hp] at Hn0
            have Hn := Aside0.mk Hn0
            have HP := Aside0.mk hp
            clear Hn0 hp
            go_wp2_with (go_at_call 28; refine (Tryd.strconv_ParseUint_10_at64_ok s hmax u HP.out _).mono ?_; rintro e w' ⟨rfl, hw'⟩)
            go_ret2
            refine ⟨ret_num Hn.out, ?_⟩
            rcases hw' with rfl | rfl
            · exact Below.refl _ _
            · exact Lib.bytesWorld_below _ _ _
          ·
            rw [hp] at Hn0
            have Hn := Aside0.mk Hn0
            have HP := Aside0.mk hp
            clear Hn0 hp
            obtain ⟨tp, p, hv⟩ := HLD.syn
            have HV := Aside0.mk hv
            clear hv
            go_wp2_with (go_at_call 28; refine (show Calls Tryd.prog 28 #[.string s, .int .i64 10, .int .i64 64] _ _ from Any.strconv_ParseUint_10_at64_syntax_var Tryd.laysPu14 s hs48 HP.out tp p _ HV.out).mono ?_; rintro e w' ⟨N, rfl, _, _, hb⟩)
            go_ret2
            exact ⟨ret_num Hn.out, hb⟩
          ·
            rw [hp] at Hn0
            have Hn := Aside0.mk Hn0
            have HP := Aside0.mk hp
            clear Hn0 hp
            obtain ⟨tp, p, hv⟩ := HLD.rng
            have HV := Aside0.mk hv
            clear hv
            go_wp2_with (go_at_call 28; refine (Tryd.strconv_ParseUint_10_at64_range_var s hs48 HP.out tp p _ HV.out).mono ?_; rintro e w' ⟨N, rfl, _, _, hb⟩)
            go_ret2
            exact ⟨ret_num Hn.out, hb⟩
theorem words_Number.calls (a0 : ByteArray) (r1 : Int) (r2 : Bool) (w : World) (HLD : LaidA w) (h : words_Number.f a0 = some (r1, r2)) :
    Calls Tryd.prog 14 #[.string a0] w fun e w' => e = .returned (.tuple #[.int .u64 r1, .bool r2]) ∧ Below w.heap.size w w' := by
  have e := Option.some.inj h
  have h1 := number_walk a0 w HLD
  rw [e] at h1
  exact h1
end Go.Proofs.YtolbbhpcajepnaaDoor.H
