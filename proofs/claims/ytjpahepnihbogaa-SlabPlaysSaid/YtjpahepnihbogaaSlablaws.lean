/- The slab's example; rooms that there can't be, a nil slab. -/
import Derived.Test.YtjpahepnihbogaaSlabw
namespace Go.Proofs.Ytjpahepnihbogaa.Z
open Go.RowKit Go.Proofs.YtjpahepnihbogaaW.PrintWords Go.Proofs.YtjpahepnihbogaaW.PrintLast Go.Proofs.YtjpahepnihbogaaW.PrintMore
attribute [local go_sem] max2_int min2_int max_two min_two max_three min_three max_four min_four
set_option linter.unusedVariables false
set_option linter.unusedSimpArgs false
set_option maxHeartbeats 8000000 in
set_option maxRecDepth 100000 in
theorem awake_ok (w : World) : Calls Try.prog 7 #[] w fun e w' => e = .returned (.bool true) ∧ Below w.heap.size w w' := by
 go_enter Try.func7, Try.ntmps7
 go_wp2_with (fail)
 refine (new_ok 2 (by omega) (by omega) _).mono ?_
 rintro e w1 ⟨g, gc, rfl, hs, hg, hgc, hb⟩
 have HS := Aside0.mk hs
 have HB := Aside0.mk hb
 clear hs hb
 go_wp2_with (fail)
 refine (take_fresh ⟨0, 0, 0, 0, 0⟩ g gc 0 ⟨[Cel.nil, Cel.nil], -1, 0, 0⟩ Cel.nil _ HS.out rfl (by decide) rfl rfl (by decide) (by decide) (by decide) (by decide)).mono ?_
 rintro e w2 ⟨he, hs2, hk2⟩
 obtain rfl : e = .returned (.tuple #[.int .u64 4294967296, .int .i64 0]) := he
 have HS2 := Aside0.mk hs2
 have HK2 := Aside0.mk hk2
 clear hs2 hk2 HS
 go_wp2_with (fail)
 refine (take_fresh ⟨0, 0, 0, 0, 0⟩ g gc 1 ⟨[⟨⟨0, 0, 0, 0, 0⟩, 1, true, 0⟩, Cel.nil], -1, 1, 1⟩ Cel.nil _ HS2.out rfl (by decide) rfl rfl (by decide) (by decide) (by decide) (by decide)).mono ?_
 rintro e w3 ⟨he, hs3, hk3⟩
 obtain rfl : e = .returned (.tuple #[.int .u64 4294967297, .int .i64 0]) := he
 have HS3 := Aside0.mk hs3
 have HK3 := Aside0.mk hk3
 clear hs3 hk3 HS2
 go_wp2_with (fail)
 refine (free_ok 4294967296 g gc 0 ⟨[⟨⟨0, 0, 0, 0, 0⟩, 1, true, 0⟩, ⟨⟨0, 0, 0, 0, 0⟩, 1, true, 0⟩], -1, 2, 2⟩ ⟨⟨0, 0, 0, 0, 0⟩, 1, true, 0⟩ _ HS3.out (by decide) (by decide) (by decide) rfl (by decide) (by decide)).mono ?_
 rintro e w4 ⟨rfl, hs4, hk4⟩
 have HS4 := Aside0.mk hs4
 have HK4 := Aside0.mk hk4
 clear hs4 hk4 HS3
 go_wp2_with (fail)
 refine (take_freed ⟨0, 0, 0, 0, 0⟩ g gc 0 ⟨[⟨⟨0, 0, 0, 0, 0⟩, 1, false, -1⟩, ⟨⟨0, 0, 0, 0, 0⟩, 1, true, 0⟩], 0, 2, 1⟩ ⟨⟨0, 0, 0, 0, 0⟩, 1, false, -1⟩ _ HS4.out rfl (by decide) rfl (by decide) (by decide) (by decide) (by decide)).mono ?_
 rintro e w5 ⟨he, hs5, hk5⟩
 obtain rfl : e = .returned (.tuple #[.int .u64 8589934592, .int .i64 0]) := he
 have HK5 := Aside0.mk hk5
 clear hs5 hk5 HS4
 go_wp2
 go_ret
 exact ⟨rfl, Kp.to_below HB.out HB.out.size (((HK2.out.trans HK3.out).trans HK4.out).trans HK5.out) (by simp only [List.mem_cons, List.not_mem_nil, or_false]; rintro b (rfl | rfl) <;> omega)⟩
set_option maxHeartbeats 8000000 in
theorem right_any (n : Int) (b : Bool) (hb : b = decide (0 < n ∧ n ≤ 1024)) (w : World) : Calls Try.prog 20 #[.int .i64 n] w fun e w' => e = .returned (.bool b) ∧ w = w' := by
 subst hb
 by_cases h : 0 < n
 · by_cases h2 : n ≤ 1024
   · have e : decide (0 < n ∧ n ≤ 1024) = true := decide_eq_true ⟨h, h2⟩
     rw [e]
     clear e
     go_enter Try.func20, Try.ntmps20
     go_wp2
     go_ret
     exact ⟨rfl, rfl⟩
   · have e : decide (0 < n ∧ n ≤ 1024) = false := decide_eq_false (fun hh => h2 hh.2)
     rw [e]
     clear e
     have hd : decide (n ≤ 1024) = false := decide_eq_false h2
     go_enter Try.func20, Try.ntmps20
     go_wp2
     go_ret
     exact ⟨rfl, rfl⟩
 · have e : decide (0 < n ∧ n ≤ 1024) = false := decide_eq_false (fun hh => h hh.1)
   rw [e]
   clear e
   have hd : decide (0 < n) = false := decide_eq_false h
   go_enter Try.func20, Try.ntmps20
   go_wp2
   go_ret
   exact ⟨rfl, rfl⟩
set_option maxHeartbeats 8000000 in
set_option maxRecDepth 100000 in
theorem nil_ok (room h : Int) (q : Rq) (w : World) (h0 : 0 ≤ h) (h1 : h < 18446744073709551616) : Calls Try.prog 6 #[.int .i64 room, .int .u64 h, q.val] w fun e w' => e = .returned (.bool true) ∧ Below w.heap.size w w' := by
 obtain ⟨a0, a1, a2, a3, a4⟩ := q
 unfold Rq.val
 go_enter Try.func6, Try.ntmps6
 go_wp2_with (first | ((with_reducible refine gate_dst (N := 5) rfl ?_); refine box_event ?hg (N := 5) ?hd (cs := #[.int .u64 a0, .int .i64 a1, .int .i64 a2, .int .i64 a3, .int .i64 a4]) (t := 35) ?hr ?_; (case hd => rfl); (case hg => rfl); (case hr => first | (go_simp; done) | (go_simp; rfl)); intro gq hg w1 hbox hb; have HG := Aside0.mk hg; clear hg))
 refine (awake_ok _).mono ?_
 rintro e w2 ⟨rfl, hb2⟩
 have hbox2 : Blk w2 gq 35 [.int .u64 a0, .int .i64 a1, .int .i64 a2, .int .i64 a3, .int .i64 a4] := Blk.below hbox hb2
 have HB := Aside0.mk (below_step hb hb2)
 clear hb hb2 hbox
 go_wp2_with (fail)
 by_cases hr : 1 ≤ room ∧ room ≤ 1024
 · refine (new_ok room hr.1 hr.2 _).mono ?_
   rintro e w' ⟨g, gc, rfl, hs, hg, hgc, hb⟩
   have hbox3 := hbox2.below hb
   have HB2 := Aside0.mk (below_step HB.out hb)
   clear hs hg hgc hb HB hbox2
   have hq0 := hbox3.cell 0 rfl; have hq1 := hbox3.cell 1 rfl; have hq2 := hbox3.cell 2 rfl; have hq3 := hbox3.cell 3 rfl; have hq4 := hbox3.cell 4 rfl
   go_wp2_with (fail)
   refine (take_nil ⟨a0, a1, a2, a3, a4⟩ _).mono ?_
   rintro e w3 ⟨rfl, hb3⟩
   have HB3 := Aside0.mk (below_step HB2.out hb3)
   clear hb3
   go_wp2_with (fail)
   refine (get_nil h _).mono ?_
   rintro e w4 ⟨rfl, hb4⟩
   have HB4 := Aside0.mk (below_step HB3.out hb4)
   clear hb4
   go_wp2_with (fail)
   refine (right_any room true (Eq.symm (decide_eq_true (by omega))) _).mono ?_
   rintro e w' ⟨rfl, rfl⟩
   go_wp2_with (fail)
   refine (free_nil h _).mono ?_
   rintro e w' ⟨rfl, rfl⟩
   go_wp2_with (fail)
   refine (len_nil _).mono ?_
   rintro e w' ⟨rfl, rfl⟩
   go_wp2_with (fail)
   refine (room_nil _).mono ?_
   rintro e w' ⟨rfl, rfl⟩
   go_wp2_with (fail)
   refine (cell_any h _ h0 h1).mono ?_
   rintro e w' ⟨rfl, rfl⟩
   go_wp2
   go_ret
   exact ⟨rfl, below_step HB4.out (below_alloc (Below.refl _ _) _)⟩
 · refine (new_bad room (by omega) _).mono ?_
   rintro e w' ⟨rfl, rfl⟩
   have hq0 := hbox2.cell 0 rfl; have hq1 := hbox2.cell 1 rfl; have hq2 := hbox2.cell 2 rfl; have hq3 := hbox2.cell 3 rfl; have hq4 := hbox2.cell 4 rfl
   go_wp2_with (fail)
   refine (take_nil ⟨a0, a1, a2, a3, a4⟩ _).mono ?_
   rintro e w3 ⟨rfl, hb3⟩
   have HB3 := Aside0.mk (below_step HB.out hb3)
   clear hb3
   go_wp2_with (fail)
   refine (get_nil h _).mono ?_
   rintro e w4 ⟨rfl, hb4⟩
   have HB4 := Aside0.mk (below_step HB3.out hb4)
   clear hb4
   go_wp2_with (fail)
   refine (right_any room false (Eq.symm (decide_eq_false (by omega))) _).mono ?_
   rintro e w' ⟨rfl, rfl⟩
   go_wp2_with (fail)
   refine (free_nil h _).mono ?_
   rintro e w' ⟨rfl, rfl⟩
   go_wp2_with (fail)
   refine (len_nil _).mono ?_
   rintro e w' ⟨rfl, rfl⟩
   go_wp2_with (fail)
   refine (room_nil _).mono ?_
   rintro e w' ⟨rfl, rfl⟩
   go_wp2_with (fail)
   refine (cell_any h _ h0 h1).mono ?_
   rintro e w' ⟨rfl, rfl⟩
   go_wp2
   go_ret
   exact ⟨rfl, below_step HB4.out (below_alloc (Below.refl _ _) _)⟩
theorem nil_law (room h a0 a1 a2 a3 a4 : Int) (W : World) (w0 : (Lit.int .i64 room).wf = true) (w1 : (Lit.int .u64 h).wf = true) (q0 : (Lit.int .u64 a0).wf = true) (q1 : (Lit.int .i64 a1).wf = true) (q2 : (Lit.int .i64 a2).wf = true) (q3 : (Lit.int .i64 a3).wf = true) (q4 : (Lit.int .i64 a4).wf = true) :
  Calls Try.prog 6 #[.int .i64 room, .int .u64 h, .agg #[.int .u64 a0, .int .i64 a1, .int .i64 a2, .int .i64 a3, .int .i64 a4]] W fun e w' => e = .returned (.bool true) ∧ Below W.heap.size W w' :=
  nil_ok room h ⟨a0, a1, a2, a3, a4⟩ W (wf_u64 w1).1 (wf_u64 w1).2
end Go.Proofs.Ytjpahepnihbogaa.Z
