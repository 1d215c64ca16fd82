/-
  A drawn region comes to what its plan comes to, whatever order is drawn. No condition.
-/
import Derived.Test.YtpakmmnbkccdcaaDoorEvFlo
namespace Go.Proofs.YtpakmmnbkccdcaaDoor.Ev
open Go Go.RowKit
set_option linter.unusedVariables false
variable {P : Program} {C : Cx} {ι : IM}
theorem want_loc {N : Nat} {T : Tr Value} {a : Act} (hsz : a.tmps.size = N) {ops : Array Oper} (hd : ∀ o ∈ ops.toList, dstOk N o) (o : Oper)
    (ht : ∀ j want p d, o.guard = some (j, want) → ops[j]? = some p → p.dst = some d → VR ι (getT T d) (a.tmps.getD d undef)) : Region.wanted o (yielded ops a.tmps) = wantO ops.toList T o.guard := by
  unfold Region.wanted
  cases hg : o.guard with
  | none => rfl
  | some q =>
    obtain ⟨j, want⟩ := q
    show (yielded ops a.tmps j == some want) = wantG ops.toList T j want
    unfold wantG yielded
    rw [Array.getElem?_toList]
    cases hj : ops[j]? with
    | none => rfl
    | some p =>
      dsimp only [Option.bind]
      have hp : p ∈ ops.toList := by
        have : ops.toList[j]? = some p := by rw [Array.getElem?_toList]; exact hj
        exact List.mem_of_getElem? this
      cases hd' : p.dst with
      | none => rfl
      | some d =>
        have hlt : d < N := hd p hp d hd'
        have e1 : a.tmps[d]? = some (a.tmps.getD d undef) := by
          rw [Array.getD_eq_getD_getElem?, Array.getElem?_eq_getElem (Nat.lt_of_lt_of_eq hlt hsz.symm)]; rfl
        dsimp only
        rw [e1]
        unfold yieldT
        dsimp only
        have h := ht j want p d hg hj hd'
        generalize getT T d = x at h
        generalize a.tmps.getD d undef = y at h
        cases h <;> first | rfl | (show (some _ == some want) = yes _ want; rw [yes_is]; simp)
section
variable {call : Caller} {N : Nat} {ops : Array Oper} {pl : Pl} {tr : Nat → Tr Value × St}
variable {ι0 : IM} {w0 : World} {X : List Nat} {g : Nat} {Hp : Tr AO} {w : World} {a : Act}
theorem plen {q : Nat} {p : Nat × List Nat} (h : pl[q]? = some p) : q < pl.length := by
  rcases Nat.lt_or_ge q pl.length with h' | h'
  · exact h'
  · rw [List.getElem?_eq_none h'] at h; cases h
theorem Dr.put (D : Dr P C call N ops pl tr) (hi : Inv (tr := tr) (ops := ops) (pl := pl) (N := N) X ι a) {q : Nat} {p : Nat × List Nat} {o : Oper} (hp : pl[q]? = some p) (ho : ops[p.1]? = some o) (hx : p.1 ∉ X) {ι1 : IM} (hle : IM.le ι ι1) {x x' : Value} (hv : VR ι1 x x') (e : (tr (q + 1)).1 = putT (tr q).1 o.dst x) :
    Inv (tr := tr) (ops := ops) (pl := pl) (N := N) (p.1 :: X) ι1 (a.put o.dst x') := by
  have hdo : dstOk N o := D.hds o (by rw [← Array.getElem?_toList] at ho; exact List.mem_of_getElem? ho)
  have oth : ∀ {t}, o.dst ≠ some t → (a.put o.dst x').tmps.getD t undef = a.tmps.getD t undef := by
    intro t ht
    cases hd : o.dst with
    | none => rfl
    | some d =>
      show (a.tmps.setIfInBounds d x').getD t undef = _
      rw [getD_put _ _ _ (Nat.lt_of_lt_of_eq (hdo d hd) hi.sz.symm), if_neg (fun e => ht (by rw [hd, e]))]
  refine ⟨fun q2 p2 o2 t hp2 ho2 hd2 hm => ?_, fun t hn => ?_, ?_, ?_⟩
  · by_cases hq : q2 = q
    · subst hq
      rw [hp] at hp2; cases hp2
      rw [ho] at ho2; cases ho2
      rw [e, hd2]
      show VR ι1 (getT ((tr q2).1.put t x) t) ((a.tmps.setIfInBounds t x').getD t undef)
      rw [getT_put, if_pos rfl, getD_put _ _ _ (Nat.lt_of_lt_of_eq (hdo t hd2) hi.sz.symm), if_pos rfl]
      exact hv
    · have hm' : p2.1 ∈ X := by
        rcases List.mem_cons.1 hm with h | h
        · exact absurd (D.uniq hp2 hp h) hq
        · exact h
      rw [oth (fun h => hq (D.one hp2 hp ho2 ho hd2 h))]
      exact (hi.tm1 q2 p2 o2 t hp2 ho2 hd2 hm').mono hle
  · have hne : o.dst ≠ some t := fun h => hn q p o hp ho h (by simp)
    rw [oth hne]
    exact (hi.tm0 t fun q2 p2 o2 a b c h => hn q2 p2 o2 a b c (List.mem_cons_of_mem _ h)).mono hle
  · cases hd : o.dst with
    | none => exact hi.sz
    | some d => simpa [Act.put] using hi.sz
  · cases hd : o.dst with
    | none => exact hi.df
    | some d => exact hi.df
/-- One operation of the order drawn. -/
theorem Dr.step (D : Dr P C call N ops pl tr) (hi : Inv (tr := tr) (ops := ops) (pl := pl) (N := N) X ι a) (hf : Fl C ops pl tr ι0 w0 X g Hp ι w) (hcl : Closed ops.toList X) (hlt : ∀ i ∈ X, i < ops.toList.length) {i : Nat} {o : Oper} (ho : ops[i]? = some o) (hx : i ∉ X) (hr : ∀ e ∈ o.after.toList, bindsA e = true → e.on ∈ X)
    {Q : Exit → Act → World → Prop} {K : Act → World → Prop} (hK : ∀ ι1 a1 w1 g1 Hp1, Inv (tr := tr) (ops := ops) (pl := pl) (N := N) (i :: X) ι1 a1 → Fl C ops pl tr ι0 w0 (i :: X) g1 Hp1 ι1 w1 → K a1 w1) :
    if Region.wanted o (yielded ops a.tmps) then o.wp P a w K Q else K (a.put o.dst undef) w := by
  have hisz : i < ops.size := by
    rcases Nat.lt_or_ge i ops.size with h | h
    · exact h
    · rw [Array.getElem?_eq_none h] at ho; cases ho
  obtain ⟨q, rc, hp⟩ := D.all i hisz
  obtain ⟨o', pf⟩ := D.pf q _ hp
  have := pf.op; rw [show ((i, rc) : Nat × List Nat).1 = i from rfl, ho] at this; cases this
  obtain ⟨o', ho', st, fits, _⟩ := D.tc q _ hp
  rw [show ((i, rc) : Nat × List Nat).1 = i from rfl, ho] at ho'; cases ho'
  have hq := plen hp
  have hol : ops.toList[i]? = some o := by rw [Array.getElem?_toList]; exact ho
  have hmem : o ∈ ops.toList := List.mem_of_getElem? hol
  have hb : ∀ j, Bf ops i j → j ∈ X := fun j h => hcl.ready hlt hol hr h
  have hnb : ∀ j, j ∈ X → ¬ Bf ops j i := fun j h h2 => hx (hcl.mask hlt j i h h2)
  have hdep : ∀ {j q' p'}, Bf ops i j → pl[q']? = some p' → p'.1 = j → q' < q := fun {j q' p'} h hp' e => by
    obtain ⟨q2, p2, a, b, c⟩ := pf.dep j (by have := hlt j (hb j h); simpa using this) h
    have := D.uniq hp' b (e.trans c.symm)
    omega
  -- the slots that are read, at the plan's place
  have slotq : ∀ t, Operand.tmp t ∈ o.op.operands.toList → VR ι (getT (tr q).1 t) (a.tmps.getD t undef) := fun t ht => by
    refine D.slot hi (by omega) fun q' p' r hp' hr' hd' => ?_
    have hfo := free_of hd' ht
    rcases pf.pair p'.1 r hr' with h | ⟨_, h | h | h⟩
    · have : q' = q := D.uniq hp' hp h
      exact .inr ⟨by rw [h]; exact hx, by omega⟩
    · rw [hfo] at h; cases h
    · exact .inl ⟨hb _ h, hdep h hp' rfl⟩
    · refine .inr ⟨fun hm => hnb _ hm h, ?_⟩
      obtain ⟨o3, pf3⟩ := D.pf q' p' hp'
      obtain ⟨q2, p2, a, b, c⟩ := pf3.dep i hisz h
      have := D.uniq b hp c
      omega
  have gslot : ∀ {q2}, q ≤ q2 → q2 ≤ pl.length → ∀ j want p d, o.guard = some (j, want) → ops[j]? = some p → p.dst = some d → VR ι (getT (tr q2).1 d) (a.tmps.getD d undef) := fun {q2} h2 h3 j want p d hg hj hd => by
    have hbj : Bf ops i j := pf.grd _ hg
    have hjs : j < ops.size := by have := hlt j (hb j hbj); simpa using this
    obtain ⟨qj, rj, hpj⟩ := D.all j hjs
    refine D.slot hi h3 fun q' p' r hp' hr' hd' => ?_
    have : q' = qj := D.one hp' hpj hr' hj hd' hd
    subst this
    rw [hpj] at hp'; cases hp'
    exact .inl ⟨hb j hbj, by have := hdep hbj hpj rfl; omega⟩
  have hwq := want_loc (T := (tr q).1) hi.sz D.hds o (gslot (Nat.le_refl _) (by omega))
  have hev : ∀ y, y ∈ o.op.operands.toList → VR ι (ρ (tr q).1 y) (a.eval y) := fun y hy => by
    have hxy := allX_mem (D.hops o hmem) y hy
    cases y with
    | tmp t => exact slotq t hy
    | const v => exact VR.self ι hxy
    | global g => cases hxy
    | func f => exact .func _ rfl (fun j v w h => by simp at h) rfl (fun j v w h => by simp at h)
  have hcl_o : cl C ops i = clOf C o.op := cl_of ho
  have fitv : ∀ {x}, opR o.op C (tr q).2.h (tr q).2.nx (ρ (tr q).1) = .v x → wantO ops.toList (tr q).1 o.guard = true → cl C ops i = .look := fun {x} h hw => by
    have := fits hw; rw [h] at this; rw [hcl_o]
    cases hc : clOf C o.op <;> rw [hc] at this <;> first | rfl | cases this
  have fitn : ∀ {x ob}, opR o.op C (tr q).2.h (tr q).2.nx (ρ (tr q).1) = .n x ob → wantO ops.toList (tr q).1 o.guard = true → cl C ops i = .make := fun {x ob} h hw => by
    have := fits hw; rw [h] at this; rw [hcl_o]
    cases hc : clOf C o.op <;> rw [hc] at this <;> first | rfl | cases this
  have fith : ∀ {x h'}, opR o.op C (tr q).2.h (tr q).2.nx (ρ (tr q).1) = .h x h' → wantO ops.toList (tr q).1 o.guard = true → cl C ops i = .act := fun {x ob} h hw => by
    have := fits hw; rw [h] at this; rw [hcl_o]
    cases hc : clOf C o.op <;> rw [hc] at this <;> first | rfl | cases this
  have fitc : ∀ {k as}, opR o.op C (tr q).2.h (tr q).2.nx (ρ (tr q).1) = .c k as → wantO ops.toList (tr q).1 o.guard = true → cl C ops i = .act := fun {x ob} h hw => by
    have := fits hw; rw [h] at this; rw [hcl_o]
    cases hc : clOf C o.op <;> rw [hc] at this <;> first | rfl | cases this
  -- no act stands between the frontier and a look's or an act's place
  have noact : (∀ q' p', q' < q → pl[q']? = some p' → cl C ops p'.1 = .act → Bf ops i p'.1) → ∀ q'' p, g ≤ q'' → q'' < q → pl[q'']? = some p → cl C ops p.1 ≠ .act := fun h q'' p h1 h2 h3 h4 => by
    have := (hf.acts q'' p h3 h4).1 (hb _ (h q'' p h2 h3 h4))
    omega
  have actq : cl C ops i = .act → g ≤ q := fun hc => by
    rcases Nat.lt_or_ge q g with h | h
    · exact absurd ((hf.acts q _ hp hc).2 h) hx
    · exact h
  have actgo : ∀ {x x' : Value} {ι1 : IM} {w1 : World}, cl C ops i = .act → (tr (q + 1)).1 = putT (tr q).1 o.dst x → VR ι1 x x' → Go1 C ι (tr q).2.h (tr q).2.nx w ι1 (tr (q + 1)).2.h (tr (q + 1)).2.nx w1 → K (a.put o.dst x') w1 := fun {x x' ι1 w1} hc e hv hG => by
    have hgq := actq hc
    have hle := hG.le (D.unq hf hp hgq hx)
    obtain ⟨Hp1, hf1⟩ := D.flAct hf hp hgq hx hc (noact (pf.act1 hc)) hG
    exact hK ι1 _ w1 _ Hp1 (D.put hi hp ho hx hle hv e) hf1
  have subq : cl C ops i = .act → Rel C ι (tr q).2.h w := fun hc => hf.go.rel.sub (D.subh hf (actq hc) (by omega) (noact (pf.act1 hc)))
  rcases st.forms with ⟨hw, e⟩ | ⟨hw, x, hxv, e⟩ | ⟨hw, x, ob, hxv, e⟩ | ⟨hw, x, h', hxv, e⟩ | ⟨hw, k', as, v, S', hxv, hcall, e⟩
  · rw [hwq, hw]
    show K (a.put o.dst undef) w
    by_cases hc : cl C ops i = .act
    · refine actgo hc (by rw [e]) (.undef ι) ?_
      rw [e]
      exact Go1.refl (subq hc)
    · exact hK ι _ w g Hp (D.put hi hp ho hx (IM.le_refl ι) (.undef ι) (by rw [e])) (D.flKeep hf hc)
  · have hc := fitv hxv hw
    have hfl : Fl C ops pl tr ι0 w0 (i :: X) g Hp ι w := D.flKeep hf (by rw [hc]; exact fun h => by cases h)
    have key : NV P ι w (execOp a.eval o) x := by
      rcases Nat.lt_or_ge q g with h | h
      · -- looked at again behind the last act
        obtain ⟨g', rfl⟩ : ∃ g', g = g' + 1 := ⟨g - 1, by omega⟩
        obtain ⟨pe, hpe, hce⟩ := hf.last g' rfl
        have heX : pe.1 ∈ X := (hf.acts g' pe hpe hce).2 (by omega)
        obtain ⟨oe, pfe⟩ := D.pf g' pe hpe
        have hqg : q < g' := by
          rcases Nat.lt_or_ge q g' with h2 | h2
          · exact h2
          · have : q = g' := by omega
            subst this; rw [hp] at hpe; cases hpe; exact absurd heX hx
        have hirc : i ∈ pe.2 := (pfe.act2 hce q _ hqg hp hc).resolve_left (fun hbf => hnb _ heX hbf)
        obtain ⟨oi, hoi, hrd⟩ := pfe.act3 hce i hirc
        rw [ho] at hoi; cases hoi
        obtain ⟨_, _, _, _, hag⟩ := D.tc g' pe hpe
        have hag := hag i hirc
        unfold againO at hag
        rw [hol] at hag
        dsimp only at hag
        have hwg := want_loc (T := (tr (g' + 1)).1) hi.sz D.hds o (gslot (q2 := g' + 1) (by omega) hf.gl)
        rw [← hwg, hwq, hw] at hag
        dsimp only [cond_true] at hag
        cases hd : o.dst with
        | none => rw [hd] at hag; cases hag
        | some d =>
          rw [hd] at hag
          dsimp only at hag
          unfold sameR at hag
          split at hag
          · rename_i y hy
            have hyx := sameV_eq _ _ _ hag
            have hkp := D.keepto (t := d) (q := q + 1) (q' := g' + 1) (by omega) hf.gl (fun q'' p o2 a b c d2 e2 => by
              have := D.one hp c ho d2 hd e2; omega)
            have hxd : getT (tr (q + 1)).1 d = x := by
              rw [e, hd]
              show getT ((tr q).1.put d x) d = x
              rw [getT_put, if_pos rfl]
            have hyx2 : y = x := by rw [hyx, hkp, hxd]
            subst hyx2
            have hevg : ∀ z, z ∈ o.op.operands.toList → VR ι (ρ (tr (g' + 1)).1 z) (a.eval z) := fun z hz => by
              have hxy := allX_mem (D.hops o hmem) z hz
              cases z with
              | tmp t =>
                refine D.slot hi hf.gl fun q' p' r hp' hr' hd' => ?_
                rcases hrd p'.1 r hr' with h2 | h2
                · rw [free_of hd' hz] at h2; cases h2
                · exact .inl ⟨hb _ h2, by have := hdep h2 hp' rfl; omega⟩
              | const v => exact VR.self ι hxy
              | global g => cases hxy
              | func f => exact .func _ rfl (fun j v w h => by simp at h) rfl (fun j v w h => by simp at h)
            exact look_ok D.hok (hf.go.rel.sub (D.subh hf (Nat.le_refl _) hf.gl (fun q'' p h1 h2 => by omega))) hevg hy
          · cases hag
      · exact look_ok D.hok (hf.go.rel.sub (D.subh hf h (by omega) (noact (pf.look hc)))) hev hxv
    obtain ⟨x', r, hv⟩ := key
    rw [hwq, hw]
    show o.wp P a w K Q
    unfold Oper.wp
    rw [r]
    exact hK ι _ w g Hp (D.put hi hp ho hx (IM.le_refl ι) hv (by rw [e])) hfl
  · have hc := fitn hxv hw
    have hgq : g ≤ q := by
      rcases Nat.lt_or_ge q g with h | h
      · obtain ⟨g', rfl⟩ : ∃ g', g = g' + 1 := ⟨g - 1, by omega⟩
        obtain ⟨pe, hpe, hce⟩ := hf.last g' rfl
        have heX : pe.1 ∈ X := (hf.acts g' pe hpe hce).2 (by omega)
        have hqg : q < g' := by
          rcases Nat.lt_or_ge q g' with h2 | h2
          · exact h2
          · have : q = g' := by omega
            subst this; rw [hp] at hpe; cases hpe; exact absurd heX hx
        exact absurd (pf.make hc g' pe hqg hpe hce) (hnb _ heX)
      · exact h
    have hun := D.unq hf hp hgq hx
    have hk : ι (tr q).2.nx = none := hun _ (Nat.le_refl _) (by rw [e]; exact Nat.lt_succ_self _)
    obtain ⟨x', w1, obj, im, r, hn, hbb, hor, hv⟩ := make_ok D.hok hf.go.rel hev hk (make_blind (H' := Hp) (hcl_o ▸ hc) hxv)
    have hfl := D.flMake hf hp hgq hx (by rw [show cl C ops ((i, rc) : Nat × List Nat).1 = .make from hc]; exact fun h => by cases h) e hn hbb hor
    rw [hwq, hw]
    show o.wp P a w K Q
    unfold Oper.wp
    rw [r]
    exact hK _ _ _ g _ (D.put hi hp ho hx (upd_le im hk) hv (by rw [e])) hfl
  · have hc := fith hxv hw
    have hun := D.unq hf hp (actq hc) hx
    have hk : ι (tr q).2.nx = none := hun _ (Nat.le_refl _) (by rw [e]; exact Nat.lt_succ_self _)
    obtain ⟨n, x', w1, ι1, r, hn, hv, hG⟩ := act_ok D.hok (subq hc) hev hk hxv
    have hG' : Go1 C ι (tr q).2.h (tr q).2.nx w ι1 (tr (q + 1)).2.h (tr (q + 1)).2.nx w1 := by rw [e]; exact hG
    have := actgo hc (by rw [e]) hv hG'
    rw [hwq, hw]
    show o.wp P a w K Q
    unfold Oper.wp
    rw [r]
    rcases hn with rfl | ⟨rfl, rfl⟩
    · exact this
    · exact this
  · have hc := fitc hxv hw
    obtain ⟨⟨f, hff, hbody⟩, hup, hc2⟩ := D.hsnd _ _ _ _ _ hcall
    obtain ⟨l', r, hl⟩ := call_ok D.hok hev hxv hff hbody (w := w)
    have hun := D.unq hf hp (actq hc) hx
    rw [e] at hun
    rw [hwq, hw]
    show o.wp P a w K Q
    unfold Oper.wp
    rw [r]
    show Calls P _ l' w _
    refine (hc2 ι w l' (D.wf (by omega)) (subq hc) hl hun).mono ?_
    rintro e2 w' ⟨v', ι', rfl, hv, hG⟩
    have hG' : Go1 C ι (tr q).2.h (tr q).2.nx w ι' (tr (q + 1)).2.h (tr (q + 1)).2.nx w' := by rw [e]; exact hG
    exact actgo hc (by rw [e]) hv hG'
theorem Dr.all_ok (D : Dr P C call N ops pl tr) {Q : Exit → Act → World → Prop} (hQ : ∀ ι1 a1 w1, StR C N ι1 (tr pl.length).1 (tr pl.length).2 a1 w1 → Go1 C ι0 (tr 0).2.h (tr 0).2.nx w0 ι1 (tr pl.length).2.h (tr pl.length).2.nx w1 → Q .normal a1 w1) :
    ∀ (l X : List Nat) (ι : IM) (a : Act) (w : World) (g : Nat) (Hp : Tr AO), Lin ops X l → Inv (tr := tr) (ops := ops) (pl := pl) (N := N) X ι a → Fl C ops pl tr ι0 w0 X g Hp ι w → Closed ops.toList X → (∀ i ∈ X, i < ops.toList.length) → (∀ j, j < ops.size → j ∈ X ∨ j ∈ l) → wpOps P ops Q l a w := by
  intro l
  induction l with
  | nil =>
    intro X ι a w g Hp hl hi hf hcl hlt hall
    have hX : ∀ j, j < ops.size → j ∈ X := fun j hj => (hall j hj).resolve_right (by simp)
    have hpX : ∀ {q : Nat} {p : Nat × List Nat}, pl[q]? = some p → p.1 ∈ X := fun {q p} hp => by
      obtain ⟨o, pf⟩ := D.pf q p hp
      refine hX _ ?_
      rcases Nat.lt_or_ge p.1 ops.size with h | h
      · exact h
      · have := pf.op; rw [Array.getElem?_eq_none h] at this; cases this
    have hsub := D.subh hf hf.gl (Nat.le_refl _) (fun q'' p h1 h2 h3 h4 => by
      have := (hf.acts q'' p h3 h4).1 (hpX h3); omega)
    have hrel := hf.go.rel.sub hsub
    refine hQ ι a w ⟨hrel, fun t => ?_, hi.sz, hi.df, D.wf (Nat.le_refl _)⟩ ⟨hf.go.up, hf.go.ext, hrel, hf.go.fr, fun k i e ⟨o, ho, hne⟩ => hf.go.new k i e ⟨o, hsub k i o e ho, hne⟩⟩
    exact D.slot hi (Nat.le_refl _) fun q' p' r hp' hr' hd' => .inl ⟨hpX hp', plen hp'⟩
  | cons i l ih =>
    intro X ι a w g Hp hl hi hf hcl hlt hall
    obtain ⟨h1, h2, _, h4⟩ := hl.step [] i l rfl
    have ho : ops[i]? = some ops[i] := Array.getElem?_eq_getElem h1
    have hr : ∀ e ∈ ops[i].after.toList, bindsA e = true → e.on ∈ X := fun e he hb => (h4 _ ho e he hb).resolve_right (by simp)
    have hl' : Lin ops (i :: X) l := ⟨fun pre j post e => by
      obtain ⟨a, b, c, d⟩ := hl.step (i :: pre) j post (by rw [e]; rfl)
      simp only [List.mem_cons, not_or] at c
      refine ⟨a, by simp only [List.mem_cons, not_or]; exact ⟨c.1, b⟩, c.2, fun o ho e he hb => ?_⟩
      rcases d o ho e he hb with h | h
      · exact .inl (List.mem_cons_of_mem _ h)
      · rcases List.mem_cons.1 h with h | h
        · exact .inl (by rw [h]; simp)
        · exact .inr h⟩
    have hcl' : Closed ops.toList (i :: X) := fun j hj o hoj e he hb => by
      rcases List.mem_cons.1 hj with h | h
      · subst h
        rw [Array.getElem?_toList, ho] at hoj; cases hoj
        exact List.mem_cons_of_mem _ (hr e he hb)
      · exact List.mem_cons_of_mem _ (hcl j h o hoj e he hb)
    have hlt' : ∀ j ∈ i :: X, j < ops.toList.length := fun j hj => by
      rcases List.mem_cons.1 hj with h | h
      · subst h; simpa using h1
      · exact hlt j h
    have hall' : ∀ j, j < ops.size → j ∈ i :: X ∨ j ∈ l := fun j hj => by
      rcases hall j hj with h | h
      · exact .inl (List.mem_cons_of_mem _ h)
      · rcases List.mem_cons.1 h with h | h
        · exact .inl (by rw [h]; simp)
        · exact .inr h
    have := D.step hi hf hcl hlt ho h2 hr (Q := Q) (K := wpOps P ops Q l) fun ι1 a1 w1 g1 Hp1 hi1 hf1 => ih (i :: X) ι1 a1 w1 g1 Hp1 hl' hi1 hf1 hcl' hlt' hall'
    unfold wpOps
    rw [ho]
    dsimp only
    split
    · rename_i hw; rw [if_pos hw] at this; exact .inl this
    · rename_i hw; rw [if_neg hw] at this; exact this
end
theorem drw (hok : Ok P C) {call : Caller} (hsnd : Snd P C call) : Drw P C call := by
  intro N id ops T S r hX hO h
  unfold drawn at h
  cases hd : drawOk C ops.toList (planOf C ops.toList) with
  | false => rw [hd] at h; cases h
  | true =>
    rw [hd] at h
    have h : stepsP C call ops.toList (planOf C ops.toList) T S = some r := h
    obtain ⟨hall, hpf⟩ := place_ok hd
    obtain ⟨tr, t0, t1, htc⟩ := stepsP_trace _ T S r h
    have mk : Wf S → Dr P C call N ops (planOf C ops.toList) tr := fun hwf => ⟨hok, hsnd, dstX_mem hX, opsX_mem hO, hall, hpf, htc, by rw [t0]; exact hwf⟩
    have hup : Up S r.2 := by
      have step : ∀ (d q : Nat), q + d ≤ (planOf C ops.toList).length → Up (tr q).2 (tr (q + d)).2 := by
        intro d
        induction d with
        | zero => intro q _; exact .refl _
        | succ d ih =>
          intro q h
          obtain ⟨p, hp⟩ : ∃ p, (planOf C ops.toList)[q + d]? = some p := ⟨_, List.getElem?_eq_getElem (by omega)⟩
          obtain ⟨o, _, h1, _⟩ := htc _ p hp
          exact (ih q (by omega)).trans (h1.up hsnd)
      have := step (planOf C ops.toList).length 0 (by omega)
      rw [Nat.zero_add, t0, t1] at this
      exact this
    refine ⟨hup, fun ι a w Q hs hu hQ => wp_region_draw fun t => ?_⟩
    have D := mk hs.wf
    have hsch : Region.schedule (P.follows .mixedOrders) ops t = Region.linearise .any ops t := by
      unfold Region.schedule; rw [hok.mx]; rfl
    rw [hsch]
    obtain ⟨hlin, hcomp⟩ := lin_ok ops t
    have hedge : ∀ i o, ops[i]? = some o → ∀ e ∈ o.after.toList, bindsA e = true → e.on < i := fun i o ho e he hb => by
      have hi : i < ops.size := by
        rcases Nat.lt_or_ge i ops.size with h | h
        · exact h
        · rw [Array.getElem?_eq_none h] at ho; cases ho
      obtain ⟨q, rc, hp⟩ := hall i hi
      obtain ⟨o', pf⟩ := hpf q _ hp
      have := pf.op; rw [show ((i, rc) : Nat × List Nat).1 = i from rfl, ho] at this; cases this
      exact pf.edge e he hb
    have e0 : tr 0 = (T, S) := t0
    refine D.all_ok (ι0 := ι) (w0 := w) (Q := Q) (by rw [t1, t0]; exact hQ) _ [] ι a _ 0 S.h hlin ⟨fun q p o t _ _ _ h => (by cases h), fun t _ => (by rw [e0]; exact hs.tm t), hs.sz, hs.df⟩ ?_ (fun i h => by cases h) (fun i h => by cases h) (fun j hj => .inr (hcomp hedge j hj))
    refine ⟨Nat.zero_le _, fun q p _ _ => by simp, fun g' h => by omega, fun k _ => by rw [e0], fun k i hi h1 h2 => ?_, ?_⟩
    · rw [e0] at h1
      rw [t1] at h2
      rw [hu k h1 h2] at hi; cases hi
    · rw [e0, t1]
      exact ⟨hup.1, fun _ _ => rfl, hs.rel.drew _, ⟨rfl, rfl, rfl, Nat.le_refl _, fun _ _ _ => rfl⟩, fun k i e l => .inr ⟨k, i, e, l, rfl⟩⟩
theorem run_snd (hok : Ok P C) (rounds d : Nat) : Snd P C (run C rounds d) := run_ok hok (fun _ h => drw hok h) rounds d
end Go.Proofs.YtpakmmnbkccdcaaDoor.Ev
