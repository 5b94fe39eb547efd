/- SwingJoins. -/
import Derived.Test.YtahmogobaanklaaSwtells
import Derived.Lib.SliceRun
namespace Go.Proofs.Ytahmogobaanklaa.Z
open Go.RowKit Go.Proofs.YtahmogobaanklaaW.PrintWords Go.Proofs.YtahmogobaanklaaW.PrintLast Go.Proofs.YtahmogobaanklaaW.PrintMore
attribute [local go_sem] max2_int min2_int max_two min_two max_three min_three max_four min_four unary_neg_float
set_option linter.unusedVariables false
set_option linter.unusedSimpArgs false
/-! Two ways with one first point, one behind the other -/
theorem step_join_l {a b : List Pt} {s : Pt} (ha : a[0]? = some s) (hb : b[0]? = some s) {k : Nat} (hk : k < a.length) : step_ (a ++ b) k = step_ a k := by
  have hbl : 0 < b.length := (List.getElem?_eq_some_iff.1 hb).1
  obtain ⟨x, hx⟩ : ∃ x, a[k]? = some x := ⟨_, List.getElem?_eq_getElem hk⟩
  have h1 : (a ++ b)[k]? = some x := by rw [List.getElem?_append_left hk]; exact hx
  by_cases h : k + 1 < a.length
  · obtain ⟨y, hy⟩ : ∃ y, a[k + 1]? = some y := ⟨_, List.getElem?_eq_getElem h⟩
    rw [step_at (y := y) h1 (by rw [Nat.mod_eq_of_lt (by rw [List.length_append]; omega), List.getElem?_append_left h]; exact hy), step_at hx (by rw [Nat.mod_eq_of_lt h]; exact hy)]
  · have e : k + 1 = a.length := by omega
    rw [step_at (y := s) h1 (by rw [Nat.mod_eq_of_lt (by rw [List.length_append]; omega), List.getElem?_append_right (by omega), e, Nat.sub_self]; exact hb), step_at hx (by rw [e, Nat.mod_self]; exact ha)]
theorem step_join_r {a b : List Pt} {s : Pt} (ha : a[0]? = some s) (hb : b[0]? = some s) {k : Nat} (hk : k < b.length) : step_ (a ++ b) (a.length + k) = step_ b k := by
  have hal : 0 < a.length := (List.getElem?_eq_some_iff.1 ha).1
  obtain ⟨x, hx⟩ : ∃ x, b[k]? = some x := ⟨_, List.getElem?_eq_getElem hk⟩
  have h1 : (a ++ b)[a.length + k]? = some x := by rw [List.getElem?_append_right (by omega), Nat.add_sub_cancel_left]; exact hx
  by_cases h : k + 1 < b.length
  · obtain ⟨y, hy⟩ : ∃ y, b[k + 1]? = some y := ⟨_, List.getElem?_eq_getElem h⟩
    rw [step_at (y := y) h1 (by rw [Nat.mod_eq_of_lt (by rw [List.length_append]; omega), List.getElem?_append_right (by omega), Nat.add_assoc, Nat.add_sub_cancel_left]; exact hy), step_at hx (by rw [Nat.mod_eq_of_lt h]; exact hy)]
  · have e : k + 1 = b.length := by omega
    rw [step_at (y := s) h1 (by rw [List.length_append, Nat.add_assoc, e, Nat.mod_self, List.getElem?_append_left hal]; exact ha), step_at hx (by rw [e, Nat.mod_self]; exact hb)]
theorem sumE_join {f : Pt → Pt → Int} {a b : List Pt} {s : Pt} (ha : a[0]? = some s) (hb : b[0]? = some s) : sumE f (a ++ b) (a ++ b).length = sumE f a a.length + sumE f b b.length := by
  have h1 : ∀ k, k ≤ a.length → sumE f (a ++ b) k = sumE f a k := by
    intro k
    induction k with
    | zero => intro _; rfl
    | succ k ih => intro hk; rw [sumE, sumE, ih (by omega), step_join_l ha hb (by omega)]
  have h2 : ∀ k, k ≤ b.length → sumE f (a ++ b) (a.length + k) = sumE f a a.length + sumE f b k := by
    intro k
    induction k with
    | zero => intro _; rw [Nat.add_zero, h1 _ (Nat.le_refl _)]; simp [sumE]
    | succ k ih => intro hk; rw [← Nat.add_assoc, sumE, sumE, ih (by omega), step_join_r ha hb (by omega)]; omega
  rw [List.length_append]
  exact h2 _ (Nat.le_refl _)
theorem farL_from {p : Pt} : ∀ (l : List Pt) (m : Int), 0 ≤ m → l.foldl (farS p) m = max m (farL p l) := by
  intro l
  induction l with
  | nil => intro m hm; show m = max m 0; omega
  | cons q l ih =>
    intro m hm
    have hs : 0 ≤ sqr (q.sub p) := (sqr_le (A := (q.sub p).u.natAbs + (q.sub p).v.natAbs) ⟨by omega, by omega⟩).2
    have e1 : (q :: l).foldl (farS p) m = l.foldl (farS p) (farS p m q) := rfl
    have e2 : farL p (q :: l) = l.foldl (farS p) (farS p 0 q) := rfl
    have k1 : farS p m q = max m (sqr (q.sub p)) := by unfold farS; split <;> omega
    have k2 : farS p 0 q = sqr (q.sub p) := by unfold farS; split <;> omega
    rw [e1, e2, k1, k2, ih _ (by omega), ih _ (by omega)]
    omega
theorem farL_join {p : Pt} (a b : List Pt) : farL p (a ++ b) = max (farL p a) (farL p b) := by
  unfold farL
  rw [List.foldl_append]
  refine farL_from b _ ?_
  have := farL_from (p := p) a 0 (by omega)
  rw [this]
  omega
theorem Way.area_le {l : List CB} (h : Way l) : (area (l.map CB.pt)).natAbs ≤ 7036874417766400 := by
  have h0 := sumE_le (f := crs) (l := l.map CB.pt) (B := 35184372088832) (fun a ha b hb => by
    have := crs_le (h.pts a ha) (h.pts b hb); omega) l.length (by rw [List.length_map]; exact Nat.le_refl _)
  have h1 := Nat.le_trans h0 (Nat.mul_le_mul_right _ h.1)
  unfold area
  rw [List.length_map]
  omega
theorem Way.turns_le {l : List CB} (h : Way l) (p : Pt) : (turns p (l.map CB.pt)).natAbs ≤ 200 := by
  have h0 := sumE_le (f := trn p) (l := l.map CB.pt) (B := 1) (fun a ha b hb => trn0_le _ _) l.length (by rw [List.length_map]; exact Nat.le_refl _)
  have h1 := h.1
  unfold turns
  rw [List.length_map]
  omega
/-! slices.Clone -/
theorem cb_one (c : CB) (base : Nat) (W : World) (hb : base ≤ W.heap.size) : CB.kd.R 24 (W.alloc (.cells #[.complex .f64 c.re c.im] 24)) base (fun _ => True) (.slice (some ⟨W.heap.size, 0, none⟩) 1 1) [c] :=
  cb_own (n := 0) (c := 0) (l := [c]) (Blk.new W 24 [c.val]) (by simp) hb
theorem cb_nil (base : Nat) (W : World) (hb : base ≤ W.heap.size) : CB.kd.R 24 (W.alloc (.cells #[] 24)) base (fun _ => True) (.slice (some ⟨W.heap.size, 0, none⟩) 0 0) [] :=
  cb_own (n := 0) (c := 0) (l := []) (Blk.new W 24 []) (by simp) hb
set_option maxHeartbeats 4000000 in
theorem clone_cb (A : Option Addr) (c : Nat) (l : List CB) (w : World) (hC : CB.kd.C w A l.length l) (hl : l.length ≤ 1000) :
    Calls Try.prog 14 #[.slice A l.length c] w fun e w' => ∃ v, e = .returned v ∧ CB.kd.R 24 w' w.heap.size (fun _ => True) v l ∧ Below w.heap.size w w' := by
  have qT : ∀ (w : World) (a : Option Addr) (n c n' c' : Nat), (binOp .eql 27 (.slice a n c) (.slice none n' c')).run Try.prog w = .ok (.bool a.isNone) w := fun w a n c n' c' => Lib.run_eql_slice_nil w _ _ a n c n' c' Try.underlying27
  cases A with
  | none =>
    have h0 : l = [] := by
      cases l with
      | nil => rfl
      | cons x l => obtain ⟨ad, h, _⟩ := hC.2.2 (by simp); cases h
    subst h0
    go_enter Try.func14, Try.ntmps14
    go_wp2
    go_ret
    exact ⟨_, rfl, Kd.R_nil _ _ _ _ _, Below.refl _ _⟩
  | some ad =>
    have hal := below_alloc (Below.refl _ w) (.cells #[] 24)
    have HC := Aside0.mk (Kd.C_below hC hal)
    have HB := Aside0.mk hal
    have HN := Aside0.mk (cb_nil w.heap.size w (Nat.le_refl _))
    clear hC hal
    go_enter Try.func14, Try.ntmps14
    go_wp2_with (at_builtin; refine Kd.R_append_row CB.val ⟨0, 0⟩ (h1 := fun _ => rfl) (w0 := w) w.heap.size rfl (.tmp 5) (.tmp 6) 27 24 (.complex .f64 0 0) 16 rfl Try.underlying27 (by kernel_rfl) rfl (by decide) _ [] l (some ad) l.length c (fun _ => True) rfl rfl (fun _ _ => trivial) HN.out HC.out HB.out HB.out.size (by simp only [List.length_nil]; omega) ?_; intro v8 w8 hR8 hB8 hg8 _; have HR8 := Aside0.mk hR8; have HB8 := Aside0.mk hB8; clear hR8 hB8 hg8)
    go_ret
    exact ⟨_, rfl, HR8.out, HB8.out⟩
set_option maxHeartbeats 8000000 in
set_option maxRecDepth 100000 in
theorem joins_ok (A B C D : Option Addr) (c c' d d' : Nat) (us ls vs ms : List Int) (u v : Int) (w : World) (hA : (Kd.int .i64).C w A us.length us) (hB : (Kd.int .i64).C w B ls.length ls) (hC : (Kd.int .i64).C w C vs.length vs) (hD : (Kd.int .i64).C w D ms.length ms)
    (h1 : us.length ≤ 1000000000000000000) (h2 : ls.length ≤ 1000000000000000000) (h3 : vs.length ≤ 1000000000000000000) (h4 : ms.length ≤ 1000000000000000000) :
    Calls Try.prog 4 #[.slice A us.length c, .slice B ls.length c', .slice C vs.length d, .slice D ms.length d', .int .i64 u, .int .i64 v] w fun e w' => e = .returned (.bool true) ∧ Below w.heap.size w w' := by
  have HA := Aside0.mk hA
  have HB := Aside0.mk hB
  have HC := Aside0.mk hC
  have HD := Aside0.mk hD
  have HL := Aside0.mk (And.intro h1 (And.intro h2 (And.intro h3 h4)))
  clear hA hB hC hD h1 h2 h3 h4
  go_enter Try.func4, Try.ntmps4
  go_wp2_with (fail)
  refine (sawake_ok _).mono ?_
  rintro e w2 ⟨rfl, hb2⟩
  have HB2 := Aside0.mk hb2
  clear hb2
  go_wp2_with (fail)
  refine (way_ok A B c c' us ls _ (Kd.C_below HA.out HB2.out) (Kd.C_below HB.out HB2.out) HL.out.1 HL.out.2.1).mono ?_
  rintro e w3 ⟨v1, x1, rfl, hR1, _, hb3⟩
  have hX := wayP_le us ls
  have hXl := wayP_len us ls
  generalize wayP us ls = X at *
  have hpts := of_pts hX
  obtain ⟨L, hL⟩ : ∃ L, L = X.map CB.of := ⟨_, rfl⟩
  rw [← hL] at hR1 hpts
  have hLl : L.length ≤ 60 := by rw [hL, List.length_map]; exact hXl
  have HFL := Aside0.mk (show ∀ c ∈ L, c.fits 4194304 from by rw [hL]; exact (of_way hX (by omega)).2)
  obtain ⟨A1, c1, rfl⟩ := Kd.R_slice hR1
  have HC1 := Aside0.mk (Kd.R_reads' hR1).2.2
  have HB3 := Aside0.mk (below_step HB2.out hb3)
  have HPX := Aside0.mk hpts
  clear hR1 hb3 hX hXl hpts hL HB2
  go_wp2_with (fail)
  refine (way_ok C D d d' vs ms _ (Kd.C_below HC.out HB3.out) (Kd.C_below HD.out HB3.out) HL.out.2.2.1 HL.out.2.2.2).mono ?_
  rintro e w4 ⟨v2, x2, rfl, hR2, _, hb4⟩
  have hY := wayP_le vs ms
  have hYl := wayP_len vs ms
  generalize wayP vs ms = Y at *
  have hpts := of_pts hY
  obtain ⟨M, hM⟩ : ∃ L, L = Y.map CB.of := ⟨_, rfl⟩
  rw [← hM] at hR2 hpts
  have hMl : M.length ≤ 60 := by rw [hM, List.length_map]; exact hYl
  have HFM := Aside0.mk (show ∀ c ∈ M, c.fits 4194304 from by rw [hM]; exact (of_way hY (by omega)).2)
  obtain ⟨A2, c2, rfl⟩ := Kd.R_slice hR2
  have HC2 := Aside0.mk (Kd.R_reads' hR2).2.2
  have HC1 := Aside0.mk (Kd.C_below HC1.out hb4)
  have HB4 := Aside0.mk (below_step HB3.out hb4)
  have HPY := Aside0.mk hpts
  clear hR2 hb4 hY hYl hpts hM HB3 HA HB HC HD HL
  go_wp2_with (fail)
  refine (at_ok u v _).mono ?_
  rintro e w' ⟨rfl, rfl⟩
  have hP := atP_le u v
  generalize atP u v = P at *
  have hof := CB.of_is (hP.mono (by omega : 1048576 ≤ 16777216))
  have HFP := Aside0.mk (hof.fits (hP.mono (by omega : 1048576 ≤ 4194304)))
  generalize CB.of P = zp at *
  clear hof hP
  go_wp2_with (fail)
  refine (at_ok v u _).mono ?_
  rintro e w' ⟨rfl, rfl⟩
  have hS := atP_le v u
  generalize atP v u = S at *
  have hof := CB.of_is (hS.mono (by omega : 1048576 ≤ 16777216))
  have HFS := Aside0.mk (hof.fits (hS.mono (by omega : 1048576 ≤ 4194304)))
  generalize CB.of S = zs at *
  clear hof hS
  have HN1 := Aside0.mk (cb_one zs w4.heap.size w4 (Nat.le_refl _))
  have hal := below_alloc (Below.refl _ w4) (.cells #[.complex .f64 zs.re zs.im] 24)
  have HAL := Aside0.mk hal
  have HD1 := Aside0.mk (Kd.C_below HC1.out hal)
  clear hal
  go_wp2_with (first
    | (at_builtin; refine Kd.R_append_row CB.val ⟨0, 0⟩ (h1 := fun _ => rfl) (w0 := w4) w4.heap.size rfl (.tmp 41) (.tmp 42) 27 24 (.complex .f64 0 0) 16 rfl Try.underlying27 (by kernel_rfl) rfl (by decide) _ [zs] L A1 L.length c1 (fun _ => True) rfl rfl (fun _ _ => trivial) HN1.out HD1.out HAL.out HAL.out.size (by simp only [List.length_singleton]; omega) ?_; intro v8 w8 hR8 hB8 hg8 _; have HR8 := Aside0.mk hR8; have HB8 := Aside0.mk hB8; clear hR8 hB8 hg8 HN1 HAL HD1; have HN2 := Aside0.mk (cb_one zs w8.heap.size w8 (Nat.le_refl _)); have hal := below_alloc (Below.refl _ w8) (.cells #[.complex .f64 zs.re zs.im] 24); have HAL2 := Aside0.mk hal; have HD2 := Aside0.mk (Kd.C_below (Kd.C_below HC2.out HB8.out) hal); clear hal)
    | (at_builtin; refine Kd.R_append_row CB.val ⟨0, 0⟩ (h1 := fun _ => rfl) (w0 := w8) w8.heap.size rfl (.tmp 45) (.tmp 46) 27 24 (.complex .f64 0 0) 16 rfl Try.underlying27 (by kernel_rfl) rfl (by decide) _ [zs] M A2 M.length c2 (fun _ => True) rfl rfl (fun _ _ => trivial) HN2.out HD2.out HAL2.out HAL2.out.size (by simp only [List.length_singleton]; omega) ?_; intro v9 w9 hR9 hB9 hg9 _; have HR9 := Aside0.mk hR9; have HB9 := Aside0.mk hB9; clear hR9 hB9 hg9 HN2 HAL2 HD2))
  have hl1 : ([zs] ++ L).length ≤ 61 := by simp; omega
  have hl2 : ([zs] ++ M).length ≤ 61 := by simp; omega
  have hf1 : ∀ c ∈ [zs] ++ L, c.fits 4194304 := fun c hc => by
    rcases List.mem_append.1 hc with h | h
    · rw [List.mem_singleton] at h; subst h; exact HFS.out
    · exact HFL.out c h
  have hf2 : ∀ c ∈ [zs] ++ M, c.fits 4194304 := fun c hc => by
    rcases List.mem_append.1 hc with h | h
    · rw [List.mem_singleton] at h; subst h; exact HFS.out
    · exact HFM.out c h
  have hs1 : (([zs] ++ L).map CB.pt)[0]? = some zs.pt := rfl
  have hs2 : (([zs] ++ M).map CB.pt)[0]? = some zs.pt := rfl
  have h8 := HR8.out
  have h9 := HR9.out
  generalize [zs] ++ L = L1 at *
  generalize [zs] ++ M = M1 at *
  obtain ⟨A8, c8, rfl⟩ := Kd.R_slice h8
  obtain ⟨A9, c9, rfl⟩ := Kd.R_slice h9
  have HE1 := Aside0.mk (Kd.C_below (Kd.R_reads' h8).2.2 HB9.out)
  have HE2 := Aside0.mk (Kd.R_reads' h9).2.2
  have HB10 := Aside0.mk (below_step (below_step HB4.out HB8.out) HB9.out)
  have HF1 := Aside0.mk hf1
  have HF2 := Aside0.mk hf2
  have HS1 := Aside0.mk hs1
  have HS2 := Aside0.mk hs2
  clear h8 h9 hf1 hf2 hs1 hs2 HR8 HR9 HB8 HB9 HC1 HC2 HB4 HFL HFM HPX HPY hLl hMl HFS
  go_wp2_with (fail)
  refine (clone_cb A8 c8 L1 _ HE1.out (by omega)).mono ?_
  rintro e w10 ⟨v10, rfl, hR10, hb10⟩
  obtain ⟨A10, c10, rfl⟩ := Kd.R_slice hR10
  have HR10 := Aside0.mk hR10
  have HB11 := Aside0.mk hb10
  have HE2' := Aside0.mk (Kd.C_below HE2.out hb10)
  clear hR10 hb10
  go_wp2_with (at_builtin; refine Kd.R_append_row CB.val ⟨0, 0⟩ (h1 := fun _ => rfl) (w0 := w9) w9.heap.size rfl (.tmp 49) (.tmp 50) 27 24 (.complex .f64 0 0) 16 rfl Try.underlying27 (by kernel_rfl) rfl (by decide) _ L1 M1 A9 M1.length c9 (fun _ => True) rfl rfl (fun _ _ => trivial) HR10.out HE2'.out HB11.out HB11.out.size (by omega) ?_; intro v11 w11 hR11 hB11 hg11 _; have HR11 := Aside0.mk hR11; have HB12 := Aside0.mk hB11; clear hR11 hB11 hg11 HR10 HB11)
  have h11 := HR11.out
  obtain ⟨A11, c11, rfl⟩ := Kd.R_slice h11
  have hboth : (L1 ++ M1).map CB.pt = L1.map CB.pt ++ M1.map CB.pt := List.map_append
  have hw1 : Way L1 := ⟨by omega, HF1.out⟩
  have hw2 : Way M1 := ⟨by omega, HF2.out⟩
  have hw3 : Way (L1 ++ M1) := ⟨by rw [List.length_append]; omega, fun c hc => (List.mem_append.1 hc).elim (HF1.out c) (HF2.out c)⟩
  have ha : area ((L1 ++ M1).map CB.pt) = area (L1.map CB.pt) + area (M1.map CB.pt) := by
    rw [hboth]; exact sumE_join HS1.out HS2.out
  have ht : turns zp.pt ((L1 ++ M1).map CB.pt) = turns zp.pt (L1.map CB.pt) + turns zp.pt (M1.map CB.pt) := by
    rw [hboth]; exact sumE_join HS1.out HS2.out
  have hfa : farL zp.pt ((L1 ++ M1).map CB.pt) = max (farL zp.pt (L1.map CB.pt)) (farL zp.pt (M1.map CB.pt)) := by
    rw [hboth]; exact farL_join _ _
  have ba1 : (area (L1.map CB.pt)).natAbs ≤ 7036874417766400 := hw1.area_le
  have ba2 : (area (M1.map CB.pt)).natAbs ≤ 7036874417766400 := hw2.area_le
  have bt1 : (turns zp.pt (L1.map CB.pt)).natAbs ≤ 200 := hw1.turns_le _
  have bt2 : (turns zp.pt (M1.map CB.pt)).natAbs ≤ 200 := hw2.turns_le _
  have HC3 := Aside0.mk (Kd.R_reads' h11).2.2
  have HC1 := Aside0.mk (Kd.C_below HE1.out HB12.out)
  have HC2 := Aside0.mk (Kd.C_below HE2.out HB12.out)
  have HW1 := Aside0.mk hw1
  have HW2 := Aside0.mk hw2
  have HW3 := Aside0.mk hw3
  have HA := Aside0.mk ha
  have HT := Aside0.mk ht
  have HFA := Aside0.mk hfa
  have HB13 := Aside0.mk (below_step HB10.out HB12.out)
  generalize L1 ++ M1 = N1 at *
  clear hboth hw1 hw2 hw3 ha ht hfa h11 HR11 HB12 HE1 HE2 HE2' HF1 HF2 HS1 HS2 HB10
  have iw : ∀ x : Int, x.natAbs ≤ 9000000000000000000 → IntKind.i64.wrap x = x := fun x hx => IntWalk.i64_in (by omega) (by omega)
  go_wp2_with (fail)
  refine (area_ok _ _ _ _ HC3.out HW3.out).mono ?_
  rintro e w12 ⟨rfl, hb12⟩
  rw [HA.out]
  have HC1 := Aside0.mk (Kd.C_below HC1.out hb12)
  have HC2 := Aside0.mk (Kd.C_below HC2.out hb12)
  have HC3 := Aside0.mk (Kd.C_below HC3.out hb12)
  have HB13 := Aside0.mk (below_step HB13.out hb12)
  clear hb12
  go_wp2_with (fail)
  refine (area_ok _ _ _ _ HC1.out HW1.out).mono ?_
  rintro e w13 ⟨rfl, hb13⟩
  have HC1 := Aside0.mk (Kd.C_below HC1.out hb13)
  have HC2 := Aside0.mk (Kd.C_below HC2.out hb13)
  have HC3 := Aside0.mk (Kd.C_below HC3.out hb13)
  have HB13 := Aside0.mk (below_step HB13.out hb13)
  clear hb13
  go_wp2_with (fail)
  refine (area_ok _ _ _ _ HC2.out HW2.out).mono ?_
  rintro e w14 ⟨rfl, hb14⟩
  have HC1 := Aside0.mk (Kd.C_below HC1.out hb14)
  have HC2 := Aside0.mk (Kd.C_below HC2.out hb14)
  have HC3 := Aside0.mk (Kd.C_below HC3.out hb14)
  have HB13 := Aside0.mk (below_step HB13.out hb14)
  clear hb14
  generalize area (L1.map CB.pt) = a1 at *
  generalize area (M1.map CB.pt) = a2 at *
  have ia := iw (a1 + a2) (by omega)
  go_wp2_with (fail)
  refine (turns_ok _ _ _ _ _ HC3.out HW3.out HFP.out).mono ?_
  rintro e w15 ⟨rfl, hb15⟩
  rw [HT.out]
  have HC1 := Aside0.mk (Kd.C_below HC1.out hb15)
  have HC2 := Aside0.mk (Kd.C_below HC2.out hb15)
  have HC3 := Aside0.mk (Kd.C_below HC3.out hb15)
  have HB13 := Aside0.mk (below_step HB13.out hb15)
  clear hb15
  go_wp2_with (fail)
  refine (turns_ok _ _ _ _ _ HC1.out HW1.out HFP.out).mono ?_
  rintro e w16 ⟨rfl, hb16⟩
  have HC1 := Aside0.mk (Kd.C_below HC1.out hb16)
  have HC2 := Aside0.mk (Kd.C_below HC2.out hb16)
  have HC3 := Aside0.mk (Kd.C_below HC3.out hb16)
  have HB13 := Aside0.mk (below_step HB13.out hb16)
  clear hb16
  go_wp2_with (fail)
  refine (turns_ok _ _ _ _ _ HC2.out HW2.out HFP.out).mono ?_
  rintro e w17 ⟨rfl, hb17⟩
  have HC1 := Aside0.mk (Kd.C_below HC1.out hb17)
  have HC2 := Aside0.mk (Kd.C_below HC2.out hb17)
  have HC3 := Aside0.mk (Kd.C_below HC3.out hb17)
  have HB13 := Aside0.mk (below_step HB13.out hb17)
  clear hb17
  generalize turns zp.pt (L1.map CB.pt) = t1 at *
  generalize turns zp.pt (M1.map CB.pt) = t2 at *
  have it := iw (t1 + t2) (by omega)
  go_wp2_with (fail)
  refine (far_ok _ _ _ _ _ HC3.out HW3.out HFP.out).mono ?_
  rintro e w18 ⟨rfl, rfl⟩
  rw [HFA.out]
  go_wp2_with (fail)
  refine (far_ok _ _ _ _ _ HC1.out HW1.out HFP.out).mono ?_
  rintro e w19 ⟨rfl, rfl⟩
  go_wp2_with (fail)
  refine (far_ok _ _ _ _ _ HC2.out HW2.out HFP.out).mono ?_
  rintro e w20 ⟨rfl, rfl⟩
  generalize farL zp.pt (L1.map CB.pt) = f1 at *
  generalize farL zp.pt (M1.map CB.pt) = f2 at *
  go_wp2
  all_goals
    go_ret
    refine ⟨?_, HB13.out⟩
    simp
    omega
theorem joins_law (A0 : Option Addr) (cap0 : Nat) (l0 : List Int) (A1 : Option Addr) (cap1 : Nat) (l1 : List Int) (A2 : Option Addr) (cap2 : Nat) (l2 : List Int) (A3 : Option Addr) (cap3 : Nat) (l3 : List Int) (a4 a5 : Int) (W : World)
    (hC0 : (Kd.int .i64).C W A0 l0.length l0) (hc0 : l0.length ≤ cap0) (hm0 : cap0 ≤ maxLen) (hb0 : l0.length * 8 ≤ 140737488351232) (hw0 : ∀ n ∈ l0, (Lit.int .i64 n).wf = true)
    (hC1 : (Kd.int .i64).C W A1 l1.length l1) (hc1 : l1.length ≤ cap1) (hm1 : cap1 ≤ maxLen) (hb1 : l1.length * 8 ≤ 140737488351232) (hw1 : ∀ n ∈ l1, (Lit.int .i64 n).wf = true)
    (hC2 : (Kd.int .i64).C W A2 l2.length l2) (hc2 : l2.length ≤ cap2) (hm2 : cap2 ≤ maxLen) (hb2 : l2.length * 8 ≤ 140737488351232) (hw2 : ∀ n ∈ l2, (Lit.int .i64 n).wf = true)
    (hC3 : (Kd.int .i64).C W A3 l3.length l3) (hc3 : l3.length ≤ cap3) (hm3 : cap3 ≤ maxLen) (hb3 : l3.length * 8 ≤ 140737488351232) (hw3 : ∀ n ∈ l3, (Lit.int .i64 n).wf = true)
    (w4 : (Lit.int .i64 a4).wf = true) (w5 : (Lit.int .i64 a5).wf = true) :
    Calls Try.prog 4 #[.slice A0 l0.length cap0, .slice A1 l1.length cap1, .slice A2 l2.length cap2, .slice A3 l3.length cap3, .int .i64 a4, .int .i64 a5] W fun e w' => e = .returned (.bool true) ∧ Below W.heap.size W w' :=
  joins_ok A0 A1 A2 A3 cap0 cap1 cap2 cap3 l0 l1 l2 l3 a4 a5 W hC0 hC1 hC2 hC3 (by omega) (by omega) (by omega) (by omega)
end Go.Proofs.Ytahmogobaanklaa.Z
