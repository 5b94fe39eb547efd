/- A region in which loads are taken first until marked operations have come up; what holds of the world is asked till then. -/
import Derived.Deep.RegionHeld3
namespace Go.Proofs.Ytifffmfbipjilaa.Z
open Go
section
variable {P : Program} {ops : Array Oper} {Q : Exit → Act → World → Prop} {md : Region.Mode} {S : World → Prop} {M : List Nat}
/-- Is a marked operation still to come? -/
def Due (M : List Nat) (listed : Array Bool) : Prop := ∃ m ∈ M, listed.getD m true = false
/-- Whatever order is drawn; behind each operation S is shown, as long as a marked one was still to come ahead of it. -/
def wpM (P : Program) (md : Region.Mode) (ops : Array Oper) (Q : Exit → Act → World → Prop) (S : World → Prop) (M : List Nat) : Nat → Array Bool → Act → World → Prop
  | 0, listed, a, w => Region.ready md ops listed = [] ∧ Q .normal a w
  | fuel + 1, listed, a, w => (Region.ready md ops listed = [] → Q .normal a w) ∧
    ∀ i ∈ Region.ready md ops listed, wpOp P ops Q i (fun a' w' => (Due M listed → S w') ∧ wpM P md ops Q S M fuel (listed.setIfInBounds i true) a' w') a w
theorem wpAny_of_M : ∀ (fuel : Nat) (listed : Array Bool) (a : Act) (w : World), wpM P md ops Q S M fuel listed a w → wpAny P md ops Q fuel listed a w
  | 0, _, _, _, h => h
  | fuel + 1, _, _, _, h => ⟨h.1, fun i hi => wpOp_mono (fun a' w' h' => wpAny_of_M fuel _ a' w' h'.2) (h.2 i hi)⟩
/-- A load whose consumer is marked may be taken first. -/
theorem wpM_first {i m : Nat} {oi om : Oper} {v : Value} (hi : ops[i]? = some oi) (hsel : ∀ (j : Nat) (o : Oper) cs b, ops[j]? = some o → o.op ≠ .select cs b)
    (hQ : ∀ c a w, Q (.panic c) (a.put oi.dst v) w → Q (.panic c) a w) (hm : m ∈ M) (hom : ops[m]? = some om) (hedge : ∃ e ∈ om.after, Region.binds md e = true ∧ e.on = i) :
    ∀ (fuel : Nat) (listed : Array Bool) (a : Act) (w : World),
      (∀ j oj, ops[j]? = some oj → j ≠ i → listed.getD j true = false → (∀ e ∈ oj.after, Region.binds md e = true → e.on ≠ i) → oi.apart ops oj = true) →
      i ∈ Region.ready md ops listed → listed.getD m true = false → YieldsIf P ops S oi v a → S w →
      wpM P md ops Q S M fuel (listed.setIfInBounds i true) (a.put oi.dst v) w → wpM P md ops Q S M (fuel + 1) listed a w := by
  have hlist : ∀ {j : Nat} {listed : Array Bool}, listed.getD j true = false → listed.getD j false = false := fun {j listed} h => by
    rcases Nat.lt_or_ge j listed.size with h' | h'
    · simpa [h'] using h
    · simp [h'] at h
  intro fuel
  induction fuel with
  | zero =>
    intro listed a w _ hr hml hy hS H
    refine ⟨fun h => (by rw [h] at hr; cases hr), fun j hj => ?_⟩
    by_cases hji : j = i
    · subst hji; exact hy.wpOp hi hS ⟨fun _ => hS, H⟩
    · have := ready_mono hj hji
      rw [H.1] at this
      cases this
  | succ fuel ih =>
    intro listed a w hfree hr hml hy hS H
    refine ⟨fun h => (by rw [h] at hr; cases hr), fun j hj => ?_⟩
    by_cases hji : j = i
    · subst hji; exact hy.wpOp hi hS ⟨fun _ => hS, H⟩
    · have h1 := H.2 j (ready_mono hj hji)
      obtain ⟨hjun, oj, hoj, hall⟩ := mem_ready.1 hj
      have hiun := (mem_ready.1 hr).1
      have hnot : ∀ e ∈ oj.after, Region.binds md e = true → e.on ≠ i := fun e he hb heq => by
        have h3 := hall e he hb
        rw [heq, hlist hiun] at h3
        cases h3
      have hjm : j ≠ m := fun e => by
        subst e
        rw [hom] at hoj
        injection hoj with hoj
        subst hoj
        obtain ⟨e, he, hb, hon⟩ := hedge
        exact hnot e he hb hon
      have him : i ≠ m := fun e => by
        subst e
        rw [hi] at hom
        injection hom with hom
        subst hom
        obtain ⟨e, he, hb, hon⟩ := hedge
        obtain ⟨_, o, ho, hal⟩ := mem_ready.1 hr
        rw [hi] at ho
        injection ho with ho
        subst ho
        have h3 := hal e he hb
        rw [hon, hlist hiun] at h3
        cases h3
      have hdue : Due M (listed.setIfInBounds i true) := ⟨m, hm, by rw [getD_set_ne true him]; exact hml⟩
      have h2 := wpOp_putIf hoj (hfree j oj hoj hji hjun hnot) (fun cs b => hsel i oi cs b hi) (fun cs b => hsel j oj cs b hoj) hQ hy h1
      refine wpOp_mono (fun a' w' h3 => ⟨fun _ => h3.2.1 hdue, ih (listed.setIfInBounds j true) a' w' (fun k ok hk hki hun hno => ?_) (ready_mono hr (Ne.symm hji)) (by rw [getD_set_ne true hjm]; exact hml) h3.1 (h3.2.1 hdue) ?_⟩) h2
      · refine hfree k ok hk hki ?_ hno
        by_cases hjk : j = k
        · subst hjk; exact hjun
        · rw [getD_set_ne true hjk] at hun; exact hun
      · rw [Array.setIfInBounds_comm _ _ hji]
        exact h3.2.2
theorem wpM_take {i m : Nat} {oi om : Oper} {v : Value} {fuel : Nat} {listed : Array Bool} {a : Act} {w : World} (hi : ops[i]? = some oi) (hom : ops[m]? = some om)
    (hs : Region.noSelect ops = true) (hf : Region.free md ops listed i = true) (hr : (Region.ready md ops listed).contains i = true)
    (hm : M.contains m = true) (he : om.after.any (fun e => Region.binds md e && e.on == i) = true) (hml : listed.getD m true = false)
    (hQ : ∀ c a w, Q (.panic c) (a.put oi.dst v) w → Q (.panic c) a w) (hy : YieldsIf P ops S oi v a) (hS : S w)
    (h : wpM P md ops Q S M fuel (listed.setIfInBounds i true) (a.put oi.dst v) w) : wpM P md ops Q S M (fuel + 1) listed a w :=
  wpM_first hi (Region.noSelect_spec hs) hQ (by simpa using hm) hom (by
    obtain ⟨e, he, hb⟩ := Array.any_eq_true'.1 he
    simp only [Bool.and_eq_true, beq_iff_eq] at hb
    exact ⟨e, he, hb.1, hb.2⟩) fuel listed a w (Region.free_spec hi hf) (by simpa using hr) hml hy hS h
/-- What yields in whatever world. -/
theorem wpM_easy {i : Nat} {oi : Oper} {v : Value} (hi : ops[i]? = some oi) (hsel : ∀ (j : Nat) (o : Oper) cs b, ops[j]? = some o → o.op ≠ .select cs b)
    (hQ : ∀ c a w, Q (.panic c) (a.put oi.dst v) w → Q (.panic c) a w) (hM : ∀ m ∈ M, m ≠ i) :
    ∀ (fuel : Nat) (listed : Array Bool) (a : Act) (w : World),
      (∀ j oj, ops[j]? = some oj → j ≠ i → listed.getD j true = false → (∀ e ∈ oj.after, Region.binds md e = true → e.on ≠ i) → oi.apart ops oj = true) →
      i ∈ Region.ready md ops listed → YieldsIf P ops (fun _ => True) oi v a → (Due M listed → S w) →
      wpM P md ops Q S M fuel (listed.setIfInBounds i true) (a.put oi.dst v) w → wpM P md ops Q S M (fuel + 1) listed a w := by
  have hlist : ∀ {j : Nat} {listed : Array Bool}, listed.getD j true = false → listed.getD j false = false := fun {j listed} h => by
    rcases Nat.lt_or_ge j listed.size with h' | h'
    · simpa [h'] using h
    · simp [h'] at h
  have hdue : ∀ {listed : Array Bool}, Due M listed → Due M (listed.setIfInBounds i true) := fun {listed} ⟨m, hm, hl⟩ => ⟨m, hm, by rw [getD_set_ne true (Ne.symm (hM m hm))]; exact hl⟩
  intro fuel
  induction fuel with
  | zero =>
    intro listed a w _ hr hy hS H
    refine ⟨fun h => (by rw [h] at hr; cases hr), fun j hj => ?_⟩
    by_cases hji : j = i
    · subst hji; exact hy.wpOp hi trivial ⟨hS, H⟩
    · have := ready_mono hj hji
      rw [H.1] at this
      cases this
  | succ fuel ih =>
    intro listed a w hfree hr hy hS H
    refine ⟨fun h => (by rw [h] at hr; cases hr), fun j hj => ?_⟩
    by_cases hji : j = i
    · subst hji; exact hy.wpOp hi trivial ⟨hS, H⟩
    · have h1 := H.2 j (ready_mono hj hji)
      obtain ⟨hjun, oj, hoj, hall⟩ := mem_ready.1 hj
      have hiun := (mem_ready.1 hr).1
      have hnot : ∀ e ∈ oj.after, Region.binds md e = true → e.on ≠ i := fun e he hb heq => by
        have h3 := hall e he hb
        rw [heq, hlist hiun] at h3
        cases h3
      have h2 := wpOp_putIf hoj (hfree j oj hoj hji hjun hnot) (fun cs b => hsel i oi cs b hi) (fun cs b => hsel j oj cs b hoj) hQ hy h1
      refine wpOp_mono (fun a' w' h3 => ⟨fun hd => h3.2.1 (hdue hd), ih (listed.setIfInBounds j true) a' w' (fun k ok hk hki hun hno => ?_) (ready_mono hr (Ne.symm hji)) h3.1 (fun hd => ?_) ?_⟩) h2
      · refine hfree k ok hk hki ?_ hno
        by_cases hjk : j = k
        · subst hjk; exact hjun
        · rw [getD_set_ne true hjk] at hun; exact hun
      · obtain ⟨m, hm, hl⟩ := hd
        refine h3.2.1 (hdue ⟨m, hm, ?_⟩)
        by_cases hjm : j = m
        · subst hjm
          exact hjun
        · rw [getD_set_ne true hjm] at hl; exact hl
      · rw [Array.setIfInBounds_comm _ _ hji]
        exact h3.2.2
theorem wpM_take0 {i : Nat} {oi : Oper} {v : Value} {fuel : Nat} {listed : Array Bool} {a : Act} {w : World} (hi : ops[i]? = some oi)
    (hs : Region.noSelect ops = true) (hf : Region.free md ops listed i = true) (hr : (Region.ready md ops listed).contains i = true)
    (hm : M.contains i = false)
    (hQ : ∀ c a w, Q (.panic c) (a.put oi.dst v) w → Q (.panic c) a w) (hy : YieldsIf P ops (fun _ => True) oi v a) (hS : Due M listed → S w)
    (h : wpM P md ops Q S M fuel (listed.setIfInBounds i true) (a.put oi.dst v) w) : wpM P md ops Q S M (fuel + 1) listed a w :=
  wpM_easy hi (Region.noSelect_spec hs) hQ (fun m hmm e => by rw [e] at hmm; simp at hm; exact hm hmm) fuel listed a w (Region.free_spec hi hf) (by simpa using hr) hy hS h
/-- Each of these comes up next. -/
def AllM (P : Program) (md : Region.Mode) (ops : Array Oper) (Q : Exit → Act → World → Prop) (S : World → Prop) (M : List Nat) (fuel : Nat) (listed : Array Bool) (a : Act) (w : World) (rs : List Nat) : Prop :=
  ∀ i ∈ rs, wpOp P ops Q i (fun a' w' => (Due M listed → S w') ∧ wpM P md ops Q S M fuel (listed.setIfInBounds i true) a' w') a w
theorem AllM.nil {fuel : Nat} {listed : Array Bool} {a : Act} {w : World} : AllM P md ops Q S M fuel listed a w [] := fun _ h => by cases h
theorem AllM.cons {fuel : Nat} {listed : Array Bool} {a : Act} {w : World} {i : Nat} {o : Oper} {rs : List Nat} (ho : ops[i]? = some o)
    (h : ∀ K' : Act → World → Prop, Shut (∀ a w, (Due M listed → S w) → wpM P md ops Q S M fuel (listed.setIfInBounds i true) a w → K' a w) → if Region.wanted o (yielded ops a.tmps) = true then Oper.wp P o a w K' Q else K' (a.put o.dst undef) w)
    (hs : AllM P md ops Q S M fuel listed a w rs) : AllM P md ops Q S M fuel listed a w (i :: rs) := fun j hj => by
  rcases List.mem_cons.1 hj with rfl | hj
  · exact wpOp_step ho (fun K' hK => h K' (fun a w hS hW => hK a w ⟨hS, hW⟩))
  · exact hs j hj
theorem wpM_ready {rs : List Nat} {fuel : Nat} {listed : Array Bool} {a : Act} {w : World} (hr : Region.ready md ops listed = rs) (hne : rs ≠ [])
    (h : AllM P md ops Q S M fuel listed a w rs) : wpM P md ops Q S M (fuel + 1) listed a w := ⟨fun h0 => absurd (hr ▸ h0) hne, hr ▸ h⟩
theorem wpM_done {listed : Array Bool} {a : Act} {w : World} (hr : Region.ready md ops listed = []) (h : Q .normal a w) : ∀ fuel, wpM P md ops Q S M fuel listed a w
  | 0 => ⟨hr, h⟩
  | _ + 1 => ⟨fun _ => h, by rw [hr]; simp⟩
theorem wp_region_M {id : Nat} {a : Act} {w : World} (hm : P.follows .mixedOrders = true) (h : wpM P .any ops Q S M ops.size (Array.replicate ops.size false) a w.drew) : (Code.region id ops true).wp P Q a w :=
  wp_region_any hm (wpAny_of_M _ _ _ _ h)
/-- The rest by its name. -/
theorem name_M {fuel : Nat} {listed : Array Bool} {a : Act} {w : World} (h : ∀ (Wp : Nat → Array Bool → Act → World → Prop) (A : Act), Wp = wpM P md ops Q S M → A = a → Wp fuel listed A w) : wpM P md ops Q S M fuel listed a w := h _ _ rfl rfl
end
end Go.Proofs.Ytifffmfbipjilaa.Z
