/- As many as there is room are kept, each as it was handed in; one more is refused. -/
import Derived.Test.YtjpahepnihbogaaSlablaws
namespace Go.Proofs.Ytjpahepnihbogaa.Z
open Go.RowKit Go.Proofs.YtjpahepnihbogaaW.PrintWords Go.Proofs.YtjpahepnihbogaaW.PrintLast Go.Proofs.YtjpahepnihbogaaW.PrintMore
attribute [local go_sem] max2_int min2_int max_two min_two max_three min_three max_four min_four
set_option linter.unusedVariables false
set_option linter.unusedSimpArgs false
/-- The cell behind the taking of q. -/
def held (q : Rq) : Cel := ⟨q, 1, true, 0⟩
/-- Behind k takings. -/
def holdK (l : List Rq) (k : Nat) : Slb := ⟨(l.take k).map held ++ List.replicate (l.length - k) Cel.nil, -1, k, k⟩
def handK (k : Nat) : List Int := (List.range k).map fun (j : Nat) => 4294967296 + (j : Int)
theorem holdK_len (l : List Rq) (k : Nat) (h : k ≤ l.length) : (holdK l k).cells.length = l.length := by
  simp [holdK]; omega
theorem holdK_at (l : List Rq) (k : Nat) (h : k < l.length) : (holdK l k).cells[k]? = some Cel.nil := by
  simp only [holdK]
  rw [List.getElem?_append_right (by simp; omega)]
  simp [List.getElem?_replicate]; omega
theorem holdK_old (l : List Rq) (j : Nat) (h : j < l.length) : (holdK l l.length).cells[j]? = some (held l[j]) := by
  simp only [holdK, List.take_length]
  rw [List.getElem?_append_left (by simpa using h), List.getElem?_map, List.getElem?_eq_getElem h]
  rfl
theorem holdK_succ (l : List Rq) (k : Nat) (h : k < l.length) : (holdK l k).cells.set k (held l[k]) = (holdK l (k + 1)).cells := by
  simp only [holdK]
  rw [List.set_append, if_neg (by simp; omega), List.take_succ_eq_append_getElem h, List.map_append]
  have h1 : k - (List.map held (List.take k l)).length = 0 := by simp; omega
  have h2 : l.length - k = (l.length - (k + 1)) + 1 := by omega
  rw [h1, h2, List.replicate_succ]
  simp
theorem handK_succ (k : Nat) : handK (k + 1) = handK k ++ [4294967296 + (k : Int)] := by
  simp only [handK, List.range_succ, List.map_append, List.map_cons, List.map_nil]
theorem handK_len (k : Nat) : (handK k).length = k := by simp [handK]
theorem take_hold (x : Rq) (xs : List Rq) (g gc k : Nat) (w : World) (hs : SlabAt w g gc (holdK xs k)) (hk : k < xs.length) (hl : xs.length ≤ 60) (hx : xs[k]? = some x) : Calls Try.prog 9 #[.pointer (some ⟨g, 0, none⟩), x.val] w fun e w' => e = .returned (.tuple #[.int .u64 (4294967296 + k), .int .i64 0]) ∧ SlabAt w' g gc (holdK xs (k + 1)) ∧ Kp [g, gc] w w' := by
 have hx' : xs[k] = x := by rw [List.getElem?_eq_getElem hk] at hx; injection hx
 refine (take_fresh x g gc k _ Cel.nil w hs (holdK_at xs k hk) (by rw [holdK_len xs k (by omega)]; omega) rfl rfl (by decide) (by decide) (by show (0 : Int) ≤ (k : Int); omega) (by show (k : Int) ≤ 1024; omega)).mono ?_
 rintro e w' ⟨rfl, h2, h3⟩
 refine ⟨?_, ?_, h3⟩
 · have : (Cel.nil.turns + 1) * 4294967296 + (k : Int) = 4294967296 + k := by show (0 + 1) * 4294967296 + (k : Int) = _; omega
   rw [this]
 · have h4 := holdK_succ xs k hk
   rw [hx'] at h4
   have : ({ holdK xs k with cells := (holdK xs k).cells.set k ⟨x, Cel.nil.turns + 1, true, Cel.nil.next⟩, fresh := (holdK xs k).fresh + 1, len := (holdK xs k).len + 1 } : Slb) = holdK xs (k + 1) := by
     show Slb.mk ((holdK xs k).cells.set k (held x)) _ _ _ = _
     rw [h4]
     simp [holdK]
   rw [← this]
   exact h2
set_option maxHeartbeats 8000000 in
set_option maxRecDepth 100000 in
theorem holds_ok (A : Option Addr) (cap : Nat) (l : List Rq) (q : Rq) (w : World) (hC : Rq.kd.C w A l.length l) (hcap : l.length ≤ cap) (hmax : cap ≤ maxLen) : Calls Try.prog 4 #[.slice A l.length cap, q.val] w fun e w' => e = .returned (.bool true) ∧ Below w.heap.size w w' := by
 unfold maxLen at hmax
 obtain ⟨m, hm, hm1, hm2⟩ : ∃ m : Nat, (if 60 < (l.length : Int) then (60 : Int) else (l.length : Int)) = m ∧ m ≤ l.length ∧ m ≤ 60 := by
   by_cases h : 60 < l.length
   · exact ⟨60, by rw [if_pos (by omega)]; rfl, by omega, by omega⟩
   · exact ⟨l.length, by rw [if_neg (by omega)], by omega, by omega⟩
 obtain ⟨xs, hxs⟩ : ∃ xs, xs = l.take m := ⟨_, rfl⟩
 have hxl : xs.length = m := by rw [hxs, List.length_take]; omega
 have hC2 := Kd.C_take hC hm1
 rw [← hxs, hxl] at hC2
 have HC := Aside0.mk hC2
 have HX := Aside0.mk hxl
 clear hC hC2 hxs hxl
 obtain ⟨a0, a1, a2, a3, a4⟩ := q
 unfold Rq.val
 go_enter Try.func4, Try.ntmps4
 go_wp2_with (first | ((with_reducible refine gate_dst (N := 3) rfl ?_); refine box_event ?hg (N := 3) ?hd (cs := #[.int .u64 a0, .int .i64 a1, .int .i64 a2, .int .i64 a3, .int .i64 a4]) (t := 35) ?hr ?_; (case hd => rfl); (case hg => rfl); (case hr => first | (go_simp; done) | (go_simp; rfl)); intro gq hg w1 hbox hb; have HG := Aside0.mk hg; clear hg))
 refine (awake_ok _).mono ?_
 rintro e w2 ⟨rfl, hb2⟩
 have hbox2 : Blk w2 gq 35 [.int .u64 a0, .int .i64 a1, .int .i64 a2, .int .i64 a3, .int .i64 a4] := Blk.below hbox hb2
 have HBX := Aside0.mk hbox2
 have HB := Aside0.mk (below_step hb hb2)
 clear hb hb2 hbox hbox2
 by_cases hm0 : m = 0
 · subst hm0
   go_wp2_with (fail)
   go_ret
   exact ⟨rfl, HB.out⟩
 have hmb : ((m : Int) == 0) = false := by rw [beq_eq_false_iff_ne]; omega
 have hmp : 1 ≤ (m : Int) := by omega
 have hmq : (m : Int) ≤ 60 := by omega
 clear hm0
 obtain ⟨ad, rfl⟩ : ∃ ad, A = some ad := by
   obtain ⟨ad, h, _⟩ := HC.out.2.2 (by omega)
   exact ⟨ad, h⟩
 go_wp2_with (fail)
 refine (new_ok m (by omega) (by omega) _).mono ?_
 rintro e w3 ⟨g, gc, rfl, hs, hg, hgc, hb3⟩
 have hs0 : SlabAt w3 g gc (holdK xs 0) := by
   have e : holdK xs 0 = ⟨List.replicate (m : Int).toNat Cel.nil, -1, 0, 0⟩ := by simp [holdK, HX.out]
   rw [e]; exact hs
 have HS := Aside0.mk hs0
 have HB3 := Aside0.mk (below_step HB.out hb3)
 have HBX3 := Aside0.mk (HBX.out.below hb3)
 have hne1 : gq ≠ g := by have := HBX.out.lt; omega
 have hne2 : gq ≠ gc := by have := HBX.out.lt; omega
 have hle1 : w.heap.size ≤ g := Nat.le_trans HB.out.size hg
 have hle2 : w.heap.size ≤ gc := Nat.le_trans HB.out.size hgc
 clear hs hs0 hb3 hg hgc HB HBX
 go_wp2_with (fail)
 go_loopw [7, 36] (fun v i wr => ∃ k : Nat, k ≤ m ∧ i = .int .i64 k ∧ (Kd.int .u64).R 31 wr w.heap.size (fun _ => True) v (handK k) ∧ SlabAt wr g gc (holdK xs k) ∧ Below w.heap.size w wr ∧ Blk wr gq 35 [.int .u64 a0, .int .i64 a1, .int .i64 a2, .int .i64 a3, .int .i64 a4]) (fun _ i _ => m - (intOf i).toNat)
 case atStart => exact ⟨0, by omega, rfl, Kd.R_nil _ _ _ _ _, HS.out, HB3.out, HBX3.out⟩
 case round =>
  obtain ⟨k, hk, rfl, hR, hsk, hbk, hbx⟩ := hrel
  by_cases hlt : k < m
  · have hlt' : (k : Int) < (m : Int) := by omega
    have hkx : k < xs.length := by rw [HX.out]; exact hlt
    have hxk : xs[k]? = some xs[k] := List.getElem?_eq_getElem hkx
    obtain ⟨x, hx⟩ : ∃ x, x = xs[k] := ⟨_, rfl⟩
    rw [← hx] at hxk
    obtain ⟨e0, e1, e2, e3, e4⟩ := Rq.came (Kd.C_below HC.out hbk) hxk
    have HXK := Aside0.mk hxk
    have HR := Aside0.mk hR
    have HSK := Aside0.mk hsk
    have HBK := Aside0.mk hbk
    have HBX := Aside0.mk hbx
    have HXX := Aside0.mk hx
    obtain ⟨A', c', hv⟩ := Kd.R_slice hR
    rw [handK_len] at hv
    subst hv
    clear hxk hx hR hsk hbk hbx
    go_wp2_with (fail)
    refine (take_hold x xs g gc k _ (HSK.out.kp (Kp.alloc (Kp.refl [] _) _) (by simp) (by simp)) hkx (by rw [HX.out]; exact hm2) HXK.out).mono ?_
    rintro e w5 ⟨rfl, hs5, hk5⟩
    have HS5 := Aside0.mk hs5
    have hsz := hk5.size
    have HB5 := Aside0.mk (kp2_below hk5 (HBK.out.alloc HBK.out.size _) (Nat.le_trans HBK.out.size (by simp)) hle1 hle2)
    have HR5 := Aside0.mk (SlabAt.keepR hk5 (HSK.out.kp (Kp.alloc (Kp.refl [] _) _) (by simp) (by simp)) (Kd.R_alloc HR.out _) rfl (by decide) (by decide))
    have HX5 := Aside0.mk (hk5.blk (HBX.out.alloc _) (by simp only [List.mem_cons, List.not_mem_nil, or_false]; omega))
    clear hs5 hk5 HSK HBK HBX HR
    go_wp2_with (first | (go_at_call 13; refine (cell_i _ k _ (by omega) (by omega) (by omega)).mono ?_; rintro e w' ⟨rfl, rfl⟩) | (at_builtin; refine Kd.R_append (Kd.int .u64) (w0 := w) w.heap.size rfl (.tmp 55) (.tmp 57) 29 31 (.int .u64 0) 8 rfl Try.underlying29 (by kernel_rfl) rfl (by decide) (by omega) _ (handK k) (4294967296 + (k : Int)) [.int .u64 (4294967296 + (k : Int))] (fun _ => True) (fun _ => False) rfl rfl rfl (fun _ hk => hk.elim) (fun _ _ => trivial) HR5.out HB5.out HB5.out.size (by rw [handK_len]; omega) ?_; intro v6 w6 hR6 hB6 hg6 _))
    exact ⟨⟨k + 1, by omega, by go_num, by rw [handK_succ]; exact hR6, SlabAt.grown hg6 HS5.out HR5.out (by decide) (by decide), hB6, HX5.out.grown HR5.out (by decide) hg6⟩, by simp [intOf]; omega⟩
  · obtain rfl : k = m := by omega
    have hlt2 : ((k : Int) < (k : Int)) = False := by simp
    obtain ⟨A', c', hv⟩ := Kd.R_slice hR
    rw [handK_len] at hv
    subst hv
    have hq0 := hbx.cell 0 rfl; have hq1 := hbx.cell 1 rfl; have hq2 := hbx.cell 2 rfl; have hq3 := hbx.cell 3 rfl; have hq4 := hbx.cell 4 rfl
    obtain ⟨g', cap', hv, _, _, _⟩ := Kd.R_form hR (by rw [handK_len]; omega)
    rw [handK_len] at hv
    injection hv with hv1 hv2 hv3
    subst hv1
    subst hv3
    have HR := Aside0.mk hR
    have HSK := Aside0.mk hsk
    have HBK := Aside0.mk hbk
    clear hR hsk hbk hbx hv2
    go_wp2_with (fail)
    refine (take_full ⟨a0, a1, a2, a3, a4⟩ g gc (holdK xs k) _ HSK.out (by rw [holdK_len xs k (by rw [HX.out]; omega), HX.out]; omega) rfl (by rw [holdK_len xs k (by rw [HX.out]; omega), HX.out]; rfl)).mono ?_
    rintro e w5 ⟨rfl, hb5⟩
    have HS5 := Aside0.mk (HSK.out.kp (Kp.of_below (S := []) hb5) (by simp) (by simp))
    have HB5 := Aside0.mk (below_step HBK.out hb5)
    have HR5 := Aside0.mk (Kd.R_below HR.out hb5)
    clear hb5 HSK HBK HR
    have hT : ∀ c ∈ (holdK xs k).cells, 0 ≤ c.turns ∧ c.turns < 4294967296 := by
      intro c hc
      have h2 : xs.length - k = 0 := by rw [HX.out]; omega
      simp only [holdK, h2, List.replicate_zero, List.append_nil, List.mem_map] at hc
      obtain ⟨q, _, rfl⟩ := hc
      exact ⟨by show (0 : Int) ≤ 1; decide, by show (1 : Int) < 4294967296; decide⟩
    have HT := Aside0.mk hT
    clear hT
    go_wp2_with (fail)
    go_loopw [74] (fun i wr => ∃ j : Nat, j ≤ k ∧ i = .int .i64 j ∧ (Kd.int .u64).R 31 wr w.heap.size (fun _ => True) (.slice (some ⟨g', 0, none⟩) k c') (handK k) ∧ SlabAt wr g gc (holdK xs k) ∧ Below w.heap.size w wr) (fun i _ => k - (intOf i).toNat)
    case atStart => exact ⟨0, by omega, rfl, HR5.out, HS5.out, HB5.out⟩
    case round =>
     clear HS5 HB5 HR5
     obtain ⟨j, hj, rfl, hR, hsk, hbk⟩ := hrel
     by_cases hlt : j < k
     · have hlt' : (j : Int) < (k : Int) := by omega
       have hjx : j < xs.length := by rw [HX.out]; exact hlt
       have hxj : xs[j]? = some xs[j] := List.getElem?_eq_getElem hjx
       obtain ⟨x, hx⟩ : ∃ x, x = xs[j] := ⟨_, rfl⟩
       rw [← hx] at hxj
       obtain ⟨e0, e1, e2, e3, e4⟩ := Rq.came (Kd.C_below HC.out hbk) hxj
       have hrc := R_int_cell hR (i := j) (x := 4294967296 + (j : Int)) (by simp [handK, List.getElem?_map, hlt])
       have hat : (holdK xs k).at (4294967296 + (j : Int)) = some (j, held x) := by
         have h1 := holdK_old xs j hjx
         rw [HX.out] at h1
         have h3 : ((4294967296 + (j : Int)) % 4294967296).toNat = j := by omega
         have h4 : (4294967296 + (j : Int)) / 4294967296 = 1 := by omega
         unfold Slb.at
         rw [h3, h1, h4, ← hx]
         exact if_pos ⟨rfl, rfl⟩
       have HAT := Aside0.mk hat
       have HR := Aside0.mk hR
       have HSK := Aside0.mk hsk
       have HBK := Aside0.mk hbk
       have hj60 : (j : Int) < 60 := by omega
       clear hxj hx hR hsk hbk hat
       go_wp2_with (fail)
       refine (get_ok (4294967296 + (j : Int)) g gc j (holdK xs k) (held x) _ HSK.out (by omega) (by omega) HT.out HAT.out).mono ?_
       rintro e w6 ⟨rfl, hb6⟩
       have f0 := fun o => pw_cell_below (below_alloc hb6 o) e0
       have f1 := fun o => pw_cell_below (below_alloc hb6 o) e1
       have f2 := fun o => pw_cell_below (below_alloc hb6 o) e2
       have f3 := fun o => pw_cell_below (below_alloc hb6 o) e3
       have f4 := fun o => pw_cell_below (below_alloc hb6 o) e4
       clear e0 e1 e2 e3 e4
       have HS6 := Aside0.mk (HSK.out.kp (Kp.of_below (S := []) hb6) (by simp) (by simp))
       have HB6 := Aside0.mk (below_step HBK.out hb6)
       have HR6 := Aside0.mk (Kd.R_below HR.out hb6)
       clear hb6 HSK HBK HR
       unfold held
       unfold Rq.val
       go_wp2_with (fail)
       go_quiet (fail)
       go_wp2
       exact ⟨⟨j + 1, by omega, by go_num, Kd.R_drewN (Kd.R_alloc HR6.out _) _, (HS6.out.kp (Kp.alloc (Kp.refl [] _) _) (by simp) (by simp)).kp (Kp.drewN (Kp.refl [] _) _) (by simp) (by simp), pw_below_drewN (below_alloc HB6.out _) _⟩, by simp [intOf]; omega⟩
     · obtain rfl : j = k := by omega
       have HSK := Aside0.mk hsk
       have HBK := Aside0.mk hbk
       clear hsk hR hbk
       go_wp2_with (fail)
       refine (len_any g gc _ _ HSK.out).mono ?_
       rintro e w' ⟨rfl, rfl⟩
       have hl2 : (holdK xs j).len = (j : Int) := rfl
       go_wp2
       go_ret
       exact ⟨rfl, HBK.out⟩
theorem holds_law (A : Option Addr) (cap : Nat) (l : List Rq) (a0 a1 a2 a3 a4 : Int) (W : World) (hC : Rq.kd.C W A l.length l) (hcap : l.length ≤ cap) (hmax : cap ≤ maxLen) (hok : ∀ x ∈ l, x.ok) (q0 : (Lit.int .u64 a0).wf = true) (q1 : (Lit.int .i64 a1).wf = true) (q2 : (Lit.int .i64 a2).wf = true) (q3 : (Lit.int .i64 a3).wf = true) (q4 : (Lit.int .i64 a4).wf = true) :
  Calls Try.prog 4 #[.slice A l.length cap, .agg #[.int .u64 a0, .int .i64 a1, .int .i64 a2, .int .i64 a3, .int .i64 a4]] W fun e w' => e = .returned (.bool true) ∧ Below W.heap.size W w' :=
  holds_ok A cap l ⟨a0, a1, a2, a3, a4⟩ W hC hcap hmax
end Go.Proofs.Ytjpahepnihbogaa.Z
