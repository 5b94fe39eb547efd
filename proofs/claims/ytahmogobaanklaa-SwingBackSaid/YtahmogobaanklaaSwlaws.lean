/- The swing's example; a way out of numbers. -/
import Derived.Test.YtahmogobaanklaaSwu
namespace Go.Proofs.Ytahmogobaanklaa.Z
open Go.RowKit Go.Proofs.YtahmogobaanklaaW.PrintWords Go.Proofs.YtahmogobaanklaaW.PrintLast Go.Proofs.YtahmogobaanklaaW.PrintMore
attribute [local go_sem] max2_int min2_int max_two min_two max_three min_three max_four min_four unary_neg_float
set_option linter.unusedVariables false
set_option linter.unusedSimpArgs false
theorem R_beside {α β : Type} {d : Kd α} {d' : Kd β} {e e' base base' : Nat} {ok ok' : Nat → Prop} {W w1 : World} {u v : Value} {xs : List α} {ys : List β} (hE : d'.E = []) (h : d'.R e' W base' ok' u ys) (hR : d.R e W base ok v xs) (hne : e ≠ e') (hg : W.grownBy w1 v.ownBlock) : d'.R e' w1 base' (fun _ => True) u ys := by
  refine Kd.R_mono (Kd.R_grown (Kd.R_tight hE h) hg (fun k hk he => ?_)) (fun _ _ => trivial)
  obtain ⟨c1, h1⟩ := Kd.R_typed h k hk.symm
  obtain ⟨c2, h2⟩ := Kd.R_typed hR k he.symm
  rw [h1] at h2
  injection h2 with h2
  injection h2 with _ h2
  exact hne h2.symm
theorem cb_own {w : World} {base n c : Nat} {l : List CB} {g : Nat} (h : Blk w g 24 (l.map CB.val)) (hl : l.length ≤ 1000) (hb : base ≤ g) : CB.kd.R 24 w base (fun _ => True) (.slice (some ⟨g, 0, none⟩) l.length l.length) l := by
  refine Kd.R_of_own ⟨by simp [encs], .inr ⟨g, l.length, (l.map CB.val).toArray, rfl, hb, h, Nat.le_refl _, by unfold maxLen; omega, by simp, ?_⟩⟩ (fun _ _ => trivial)
  simp only [encs, Nat.mul_one]
  exact List.take_of_length_le (by simp)
set_option maxHeartbeats 4000000 in
theorem sawake_ok (w : World) : Calls Try.prog 7 #[] w fun e w' => e = .returned (.bool true) ∧ Below w.heap.size w w' := by
  obtain ⟨l, hl⟩ : ∃ l : List CB, l = [⟨0, 0⟩, ⟨4611686018427387904, 0⟩, ⟨4611686018427387904, 4611686018427387904⟩, ⟨0, 4611686018427387904⟩] := ⟨_, rfl⟩
  have i0 : CB.Is ⟨0, 0⟩ ⟨0, 0⟩ := ⟨FI.zero, FI.zero⟩
  have i1 : CB.Is ⟨4611686018427387904, 0⟩ ⟨2, 0⟩ := ⟨FI.two, FI.zero⟩
  have i2 : CB.Is ⟨4611686018427387904, 4611686018427387904⟩ ⟨2, 2⟩ := ⟨FI.two, FI.two⟩
  have i3 : CB.Is ⟨0, 4611686018427387904⟩ ⟨0, 2⟩ := ⟨FI.zero, FI.two⟩
  have i4 : CB.Is ⟨4607182418800017408, 4607182418800017408⟩ ⟨1, 1⟩ := ⟨FI.one, FI.one⟩
  have hpts : l.map CB.pt = [⟨0, 0⟩, ⟨2, 0⟩, ⟨2, 2⟩, ⟨0, 2⟩] := by
    rw [hl]; simp only [List.map_cons, List.map_nil, i0.pt, i1.pt, i2.pt, i3.pt]
  have hway : Way l := by
    refine ⟨by rw [hl]; simp, ?_⟩
    rw [hl]
    intro c hc
    simp only [List.mem_cons, List.not_mem_nil, or_false] at hc
    rcases hc with rfl | rfl | rfl | rfl
    · exact i0.fits ⟨by decide, by decide⟩
    · exact i1.fits ⟨by decide, by decide⟩
    · exact i2.fits ⟨by decide, by decide⟩
    · exact i3.fits ⟨by decide, by decide⟩
  have ha : area (l.map CB.pt) = 8 := by rw [hpts]; decide
  have hz : CB.fits ⟨4607182418800017408, 4607182418800017408⟩ 4194304 := i4.fits ⟨by decide, by decide⟩
  have ht : turns (CB.pt ⟨4607182418800017408, 4607182418800017408⟩) (l.map CB.pt) = 1 := by rw [hpts, i4.pt]; decide
  have hblk : Blk (w.alloc (.cells #[.complex .f64 0 0, .complex .f64 4611686018427387904 0, .complex .f64 4611686018427387904 4611686018427387904, .complex .f64 0 4611686018427387904] 24)) w.heap.size 24 (l.map CB.val) := by
    have := Blk.new w 24 (l.map CB.val)
    rw [hl] at this ⊢; exact this
  have hb0 := below_alloc (Below.refl _ w) (.cells #[.complex .f64 0 0, .complex .f64 4611686018427387904 0, .complex .f64 4611686018427387904 4611686018427387904, .complex .f64 0 4611686018427387904] 24)
  have hlen : l.length = 4 := by rw [hl]; rfl
  have hC := (Kd.R_reads' (cb_own (base := 0) (n := 0) (c := 0) hblk (by omega) (Nat.zero_le _))).2.2
  have HA := Aside0.mk ha
  have HT := Aside0.mk ht
  have HC := Aside0.mk hC
  have HW := Aside0.mk hway
  have HZ := Aside0.mk hz
  have HB := Aside0.mk hb0
  have HL := Aside0.mk hlen
  clear ha ht hC hway hz hb0 hblk hpts i0 i1 i2 i3 i4 hl hlen
  go_enter Try.func7, Try.ntmps7
  go_wp2_with (fail)
  have h1 := area_ok _ 4 l _ HC.out HW.out
  rw [HL.out, HA.out] at h1
  refine h1.mono ?_
  rintro e w2 ⟨rfl, hb2⟩
  clear h1
  have h2 := turns_ok _ 4 l _ w2 (Kd.C_below HC.out hb2) HW.out HZ.out
  rw [HL.out, HT.out] at h2
  have HB2 := Aside0.mk (below_step HB.out hb2)
  have H2 := Aside0.mk h2
  clear h2 hb2
  go_wp2_with (fail)
  refine H2.out.mono ?_
  rintro e w3 ⟨rfl, hb3⟩
  have HB3 := Aside0.mk (below_step HB2.out hb3)
  clear hb3
  go_wp2
  go_ret
  exact ⟨rfl, HB3.out⟩
def wayP (us ls : List Int) : List Pt := ((us.zip ls).take 60).map fun x => atP x.1 x.2
theorem wayP_len (us ls : List Int) : (wayP us ls).length ≤ 60 := by simp [wayP]; omega
theorem wayP_le (us ls : List Int) : ∀ p ∈ wayP us ls, p.le 1048576 := by
  intro p hp
  obtain ⟨x, _, rfl⟩ := List.mem_map.1 hp
  exact atP_le _ _
theorem wayP_at {us ls : List Int} {k : Nat} {u v : Int} (hu : us[k]? = some u) (hv : ls[k]? = some v) (h : k < 60) : (wayP us ls)[k]? = some (atP u v) := by
  unfold wayP
  rw [List.getElem?_map, List.getElem?_take, if_pos h, List.getElem?_zip_eq_some (z := (u, v)) |>.2 ⟨hu, hv⟩]
  rfl
theorem wayP_end {us ls : List Int} {k : Nat} (h : ls.length ≤ k ∨ 60 ≤ k) : (wayP us ls)[k]? = none := by
  unfold wayP
  rw [List.getElem?_map, List.getElem?_take]
  by_cases h6 : k < 60
  · rw [if_pos h6, List.getElem?_eq_none (by simp; omega)]; rfl
  · rw [if_neg h6]; rfl
set_option maxHeartbeats 8000000 in
theorem way_ok (A B : Option Addr) (c c' : Nat) (us ls : List Int) (w : World) (hA : (Kd.int .i64).C w A us.length us) (hB : (Kd.int .i64).C w B ls.length ls) (hu : us.length ≤ 1000000000000000000) (hv : ls.length ≤ 1000000000000000000) :
    Calls Try.prog 13 #[.slice A us.length c, .slice B ls.length c'] w fun e w' => ∃ v x, e = .returned (.tuple #[v, x]) ∧ CB.kd.R 24 w' w.heap.size (fun _ => True) v ((wayP us ls).map CB.of) ∧ Pt.kd.R 40 w' w.heap.size (fun _ => True) x (wayP us ls) ∧ Below w.heap.size w w' := by
  have hW := wayP_len us ls
  have HA := Aside0.mk hA
  have HB := Aside0.mk hB
  clear hA hB
  go_enter Try.func13, Try.ntmps13
  go_wp2_with (fail)
  go_loopw [6, 7, 12] (fun v x i wr => ∃ k : Nat, k ≤ us.length ∧ i = .int .i64 k ∧ CB.kd.R 24 wr w.heap.size (fun _ => True) v (((wayP us ls).take k).map CB.of) ∧ Pt.kd.R 40 wr w.heap.size (fun _ => True) x ((wayP us ls).take k) ∧ Below w.heap.size w wr) (fun _ _ i _ => us.length - (intOf i).toNat)
  case atStart => exact ⟨0, Nat.zero_le _, rfl, Kd.R_nil _ _ _ _ _, Kd.R_nil _ _ _ _ _, Below.refl _ _⟩
  case round =>
    obtain ⟨k, hk, rfl, hR1, hR2, hb⟩ := hrel
    have H1 := Aside0.mk hR1
    have H2 := Aside0.mk hR2
    have HBB := Aside0.mk hb
    have hl2 : ((wayP us ls).take k).length ≤ 60 := by rw [List.length_take]; omega
    obtain ⟨F, hF⟩ : ∃ F, F = (wayP us ls).take k := ⟨_, rfl⟩
    rw [← hF] at hl2 H1 H2 hR1 hR2
    obtain ⟨A1, c1, rfl⟩ := Kd.R_slice hR1
    obtain ⟨A2, c2, rfl⟩ := Kd.R_slice hR2
    rw [List.length_map] at H1 ⊢
    have HF := Aside0.mk hF
    clear hR1 hR2 hb hF
    by_cases hlt : k < us.length
    · have hlt' : (k : Int) < (us.length : Int) := by omega
      obtain ⟨ad, rfl⟩ : ∃ ad, A = some ad := by
        obtain ⟨ad, h, _⟩ := HA.out.2.2 (by omega)
        exact ⟨ad, h⟩
      obtain ⟨u, hu0⟩ : ∃ u, us[k]? = some u := ⟨_, List.getElem?_eq_getElem hlt⟩
      have c0 := int_came (Kd.C_below HA.out HBB.out) hu0
      by_cases hin : k < ls.length
      · have hin' : (k : Int) < (ls.length : Int) := by omega
        obtain ⟨bd, rfl⟩ : ∃ ad, B = some ad := by
          obtain ⟨ad, h, _⟩ := HB.out.2.2 (by omega)
          exact ⟨ad, h⟩
        obtain ⟨v, hv0⟩ : ∃ u, ls[k]? = some u := ⟨_, List.getElem?_eq_getElem hin⟩
        have d0 := int_came (Kd.C_below HB.out HBB.out) hv0
        by_cases h60 : k < 60
        · have h60' : (k : Int) < 60 := by omega
          have htk : (wayP us ls).take (k + 1) = F ++ [atP u v] := by rw [List.take_add_one, wayP_at hu0 hv0 h60, HF.out]; rfl
          have HTK := Aside0.mk htk
          have HV := Aside0.mk hv0
          clear htk hu0 hv0
          go_wp2_with (fail)
          refine (at_ok u v _).mono ?_
          rintro e w' ⟨rfl, rfl⟩
          go_wp2_with (at_builtin; refine Kd.R_append CB.kd (w0 := w) w.heap.size rfl (.tmp 25) (.tmp 32) 27 24 (.complex .f64 0 0) 16 rfl Try.underlying27 (by kernel_rfl) rfl (by decide) (by omega) _ (F.map CB.of) (CB.of (atP u v)) [.complex .f64 (CB.of (atP u v)).re (CB.of (atP u v)).im] (fun _ => True) (fun _ => False) rfl rfl rfl (fun _ hk => hk.elim) (fun _ _ => trivial) H1.out HBB.out HBB.out.size (by rw [List.length_map]; omega) ?_; intro v8 w8 hR8 hB8 hg8 _; have H28 := Aside0.mk (R_beside rfl H2.out H1.out (by decide) hg8); have HR8 := Aside0.mk hR8; have HB8 := Aside0.mk hB8; have d8 := int_came (Kd.C_below HB.out hB8) HV.out; clear hR8 hB8 hg8)
          refine (rClamp_ok u v _).mono ?_
          rintro e w9 ⟨rfl, hb9⟩
          have H29 := Aside0.mk (Kd.R_below H28.out hb9)
          have HR9 := Aside0.mk (Kd.R_below HR8.out hb9)
          have HB9 := Aside0.mk (below_step HB8.out hb9)
          clear hb9 d8 c0 d0
          go_wp2_with (at_builtin; refine Kd.R_append Pt.kd (w0 := w) w.heap.size rfl (.tmp 34) (.tmp 41) 34 40 (.agg #[.int .i64 0, .int .i64 0]) 16 rfl Try.underlying34 (by kernel_rfl) rfl (by decide) (by omega) _ F (atP u v) [.int .i64 (atP u v).u, .int .i64 (atP u v).v] (fun _ => True) (fun _ => False) rfl rfl rfl (fun _ hk => hk.elim) (fun _ _ => trivial) H29.out HB9.out HB9.out.size (by omega) ?_; intro v10 w10 hR10 hB10 hg10 _; have H110 := Aside0.mk (R_beside rfl HR9.out H29.out (by decide) hg10); have H210 := Aside0.mk hR10; have HB10 := Aside0.mk hB10; clear hR10 hB10 hg10)
          go_roundw
          case rel => exact ⟨k + 1, by omega, by go_num, by rw [HTK.out, List.map_append]; exact H110.out, by rw [HTK.out]; exact H210.out, HB10.out⟩
          case measure => simp [intOf]; omega
        · have h60' : ¬ (k : Int) < 60 := by omega
          have htk : (wayP us ls).take (k + 1) = F := by rw [List.take_add_one, wayP_end (.inr (by omega)), HF.out]; simp
          have HTK := Aside0.mk htk
          clear htk hu0 hv0
          go_wp2_with (fail)
          go_roundw
          case rel => exact ⟨k + 1, by omega, by go_num, by rw [HTK.out]; exact H1.out, by rw [HTK.out]; exact H2.out, HBB.out⟩
          case measure => simp [intOf]; omega
      · have htk : (wayP us ls).take (k + 1) = F := by rw [List.take_add_one, wayP_end (.inl (by omega)), HF.out]; simp
        have HTK := Aside0.mk htk
        have hd : decide ((k : Int) < (ls.length : Int)) = false := decide_eq_false (by omega)
        have hd2 : decide (k < ls.length) = false := decide_eq_false hin
        clear htk hu0
        go_wp2_with (fail)
        go_roundw
        case rel => exact ⟨k + 1, by omega, by go_num, by rw [HTK.out]; exact H1.out, by rw [HTK.out]; exact H2.out, HBB.out⟩
        case measure => simp [intOf]; omega
    · obtain rfl : k = us.length := by omega
      have e : F = wayP us ls := by rw [HF.out]; exact List.take_of_length_le (by simp [wayP]; omega)
      have HE := Aside0.mk e
      clear e
      go_wp2_with (fail)
      refine bodyPost_ret (results_tmp2 rfl _ _ _) rfl ?_
      exact ⟨_, _, rfl, by rw [← HE.out]; exact H1.out, by rw [← HE.out]; exact H2.out, HBB.out⟩
end Go.Proofs.Ytahmogobaanklaa.Z
