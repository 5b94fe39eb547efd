/- DequeNil. -/
import Derived.Test.YtofapimappeppaaDqc
namespace Go.Proofs.Ytofapimappeppaa.Z
open Go.RowKit Go.Shelf Go.Proofs.YtofapimappeppaaW.PrintWords
attribute [local go_sem] Oper.semAt_some
set_option linter.unusedVariables false
set_option linter.unusedSimpArgs false
set_option maxHeartbeats 8000000 in
set_option maxRecDepth 100000 in
theorem all1_nil (n : Nat) (l b1 b2 b3 : Nat) (row : Int) (back : Bool) (J Jx : List Nat → World → Prop) (W : World)
    (hB1 : Blk W b1 23 [.pointer none]) (hB2 : Blk W b2 3 [.int .i64 row]) (hB3 : Blk W b3 4 [.bool back]) (h0 : J [] W) :
    CallsIn Fence.wide n Try.prog 28 #[.func (.yield l) #[] #[], .pointer (some ⟨b1, 0, none⟩), .pointer (some ⟨b2, 0, none⟩), .pointer (some ⟨b3, 0, none⟩)] W fun e W' => (∃ v, e = .returned v) ∧
      ((∃ ys, ys = [] ∧ J ys W') ∨ (∃ pre, pre <+: [] ∧ Jx pre W')) := by
  have c1 := hB1.cell 0 rfl
  have c2 := hB2.cell 0 rfl
  have c3 := hB3.cell 0 rfl
  refine callsIn_of_wp Try.func28 rfl trivial ?_ rfl
  simp only [Try.ntmps28, List.size_toArray, List.length_cons, List.length_nil, Nat.reduceAdd, Nat.reduceSub, Array.replicate_succ, Array.replicate_zero, List.push_toArray, List.append_toArray, List.nil_append, List.cons_append]
  gi_wp2_with (fail)
  refine ⟨trivial, (fun h => by cases h), ?_⟩
  refine (callsIn_wide.2 (end_nil row back _)).mono ?_
  rintro e w' ⟨rfl, rfl⟩
  gi_wp2
  gi_loopw [5] (fun p wr => p = .int .i64 0 ∧ wr = W) (fun _ _ => 0)
  case atStart => exact ⟨rfl, rfl⟩
  case round =>
    obtain ⟨rfl, rfl⟩ := hrel
    gi_wp2
    refine ⟨(fun _ h => (by cases h)), ?_⟩
    gi_wp2
    go_end0
    exact ⟨⟨_, rfl⟩, .inl ⟨[], rfl, h0⟩⟩
/-- slices.Collect(nil.All(row, back)): nothing. -/
theorem collect_nil (b1 b2 b3 : Nat) (row : Int) (back : Bool) (w : World)
    (hB1 : Blk w b1 23 [.pointer none]) (hB2 : Blk w b2 3 [.int .i64 row]) (hB3 : Blk w b3 4 [.bool back]) :
    Calls Try.prog 20 #[.func (.func 28) #[] #[.pointer (some ⟨b1, 0, none⟩), .pointer (some ⟨b2, 0, none⟩), .pointer (some ⟨b3, 0, none⟩)]] w fun e w' =>
      ∃ A c, e = .returned (.slice A 0 c) ∧ Below w.heap.size w w' := by
  have hs : SeqStopsK Fence.wide 3 Try.prog 28 #[.pointer (some ⟨b1, 0, none⟩), .pointer (some ⟨b2, 0, none⟩), .pointer (some ⟨b3, 0, none⟩)] (fun x : Nat => #[.int .i64 (x : Int)]) (Below w.heap.size) (fun ys => ys = []) (fun pre => pre <+: []) 0 w :=
    fun l J Jx W hW _ _ hY h0 => all1_nil 3 l b1 b2 b3 row back J Jx W (hB1.below hW) (hB2.below hW) (hB3.below hW) h0
  refine callsIn_wide.1 ((collect_seq 5 (by omega) 28 _ (enters_of Try.func28 (by kernel_rfl) rfl) (fun ys => ys = []) (fun pre => pre <+: []) 0 (by omega) w hs).mono ?_)
  rintro e w' ⟨v, ys, rfl, rfl, ho, hb⟩
  obtain ⟨A, c, rfl⟩ := own_slice ho
  exact ⟨A, c, rfl, hb⟩
set_option maxHeartbeats 8000000 in
theorem right6 (n m : Int) (b : Bool) (hb : b = decide (1 ≤ n ∧ n ≤ 8 ∧ 1 ≤ m ∧ m ≤ 1024)) (w : World) : Calls Try.prog 19 #[.int .i64 n, .int .i64 m] w fun e w' => e = .returned (.bool b) ∧ w = w' := by
 subst hb
 by_cases h0 : 1 ≤ n
 · skip
   by_cases h1 : n ≤ 8
   · skip
     by_cases h2 : 1 ≤ m
     · skip
       by_cases h3 : m ≤ 1024
       · skip
         have e : decide (1 ≤ n ∧ n ≤ 8 ∧ 1 ≤ m ∧ m ≤ 1024) = true := decide_eq_true (by omega)
         rw [e]
         clear e
         go_enter Try.func19, Try.ntmps19
         go_wp2
         go_ret
         exact ⟨rfl, rfl⟩
       · have hd : decide (m ≤ 1024) = false := decide_eq_false h3
         have e : decide (1 ≤ n ∧ n ≤ 8 ∧ 1 ≤ m ∧ m ≤ 1024) = false := decide_eq_false (by omega)
         rw [e]
         clear e
         go_enter Try.func19, Try.ntmps19
         go_wp2
         go_ret
         exact ⟨rfl, rfl⟩
     · have hd : decide (1 ≤ m) = false := decide_eq_false h2
       have e : decide (1 ≤ n ∧ n ≤ 8 ∧ 1 ≤ m ∧ m ≤ 1024) = false := decide_eq_false (by omega)
       rw [e]
       clear e
       go_enter Try.func19, Try.ntmps19
       go_wp2
       go_ret
       exact ⟨rfl, rfl⟩
   · have hd : decide (n ≤ 8) = false := decide_eq_false h1
     have e : decide (1 ≤ n ∧ n ≤ 8 ∧ 1 ≤ m ∧ m ≤ 1024) = false := decide_eq_false (by omega)
     rw [e]
     clear e
     go_enter Try.func19, Try.ntmps19
     go_wp2
     go_ret
     exact ⟨rfl, rfl⟩
 · have hd : decide (1 ≤ n) = false := decide_eq_false h0
   have e : decide (1 ≤ n ∧ n ≤ 8 ∧ 1 ≤ m ∧ m ≤ 1024) = false := decide_eq_false (by omega)
   rw [e]
   clear e
   go_enter Try.func19, Try.ntmps19
   go_wp2
   go_ret
   exact ⟨rfl, rfl⟩
set_option maxHeartbeats 8000000 in
set_option maxRecDepth 100000 in
theorem dnil_ok (n m row i : Int) (w : World) : Calls Try.prog 5 #[.int .i64 n, .int .i64 m, .int .i64 row, .int .i64 i] w fun e w' => e = .returned (.bool true) ∧ Below w.heap.size w w' := by
 go_enter Try.func5, Try.ntmps5
 go_wp2_with (fail)
 refine (dawake_ok _).mono ?_
 rintro e w1 ⟨rfl, hb⟩
 have HB := Aside0.mk hb
 clear hb
 go_wp2_with (fail)
 by_cases hr : 1 ≤ n ∧ n ≤ 8 ∧ 1 ≤ m ∧ m ≤ 1024
 · obtain ⟨n', rfl⟩ : ∃ k : Nat, n = k := ⟨n.toNat, by omega⟩
   obtain ⟨m', rfl⟩ : ∃ k : Nat, m = k := ⟨m.toNat, by omega⟩
   refine (dnew_ok n' m' (by omega) (by omega) (by omega) (by omega) _).mono ?_
   rintro e w2 ⟨g, br, bl, rfl, -, hg, -, -, hb2⟩
   have HB2 := Aside0.mk (below_step HB.out hb2)
   clear hb2
   have HR := Aside0.mk hr
   clear hr
   go_wp2_with (fail)
   refine (front_nil row _).mono ?_
   rintro e w' ⟨rfl, rfl⟩
   go_wp2_with (fail)
   refine (back_nil row _).mono ?_
   rintro e w' ⟨rfl, rfl⟩
   go_wp2_with (fail)
   refine (right6 n' m' true (Eq.symm (decide_eq_true HR.out)) _).mono ?_
   rintro e w' ⟨rfl, rfl⟩
   go_wp2_with (fail)
   refine (push_nil row i _).mono ?_
   rintro e w' ⟨rfl, rfl⟩
   go_wp2_with (fail)
   refine (remove_nil i _).mono ?_
   rintro e w' ⟨rfl, rfl⟩
   go_wp2_with (fail)
   refine (where_nil i _).mono ?_
   rintro e w' ⟨rfl, rfl⟩
   go_wp2_with (fail)
   refine (dlen_nil row _).mono ?_
   rintro e w' ⟨rfl, rfl⟩
   go_wp2_with (fail)
   refine (all_any none row true _).mono ?_
   rintro e w3 ⟨b1, b2, b3, rfl, hb3, q1, q2, q3⟩
   have HB3 := Aside0.mk (below_step HB2.out hb3)
   have Q := Aside0.mk (And.intro q1 (And.intro q2 q3))
   clear hb3 q1 q2 q3
   go_wp2_with (fail)
   refine (collect_nil b1 b2 b3 row true _ Q.out.1 Q.out.2.1 Q.out.2.2).mono ?_
   rintro e w4 ⟨A, c, rfl, hb4⟩
   have HB4 := Aside0.mk (below_step HB3.out hb4)
   clear hb4
   go_wp2
   go_ret
   exact ⟨rfl, HB4.out⟩
 · refine (dnew_bad n m hr _).mono ?_
   rintro e w2 ⟨rfl, rfl⟩
   have hb2 := Below.refl w1.heap.size w1
   have HB2 := Aside0.mk (below_step HB.out hb2)
   clear hb2
   have HR := Aside0.mk hr
   clear hr
   go_wp2_with (fail)
   refine (front_nil row _).mono ?_
   rintro e w' ⟨rfl, rfl⟩
   go_wp2_with (fail)
   refine (back_nil row _).mono ?_
   rintro e w' ⟨rfl, rfl⟩
   go_wp2_with (fail)
   refine (right6 n m false (Eq.symm (decide_eq_false HR.out)) _).mono ?_
   rintro e w' ⟨rfl, rfl⟩
   go_wp2_with (fail)
   refine (push_nil row i _).mono ?_
   rintro e w' ⟨rfl, rfl⟩
   go_wp2_with (fail)
   refine (remove_nil i _).mono ?_
   rintro e w' ⟨rfl, rfl⟩
   go_wp2_with (fail)
   refine (where_nil i _).mono ?_
   rintro e w' ⟨rfl, rfl⟩
   go_wp2_with (fail)
   refine (dlen_nil row _).mono ?_
   rintro e w' ⟨rfl, rfl⟩
   go_wp2_with (fail)
   refine (all_any none row true _).mono ?_
   rintro e w3 ⟨b1, b2, b3, rfl, hb3, q1, q2, q3⟩
   have HB3 := Aside0.mk (below_step HB2.out hb3)
   have Q := Aside0.mk (And.intro q1 (And.intro q2 q3))
   clear hb3 q1 q2 q3
   go_wp2_with (fail)
   refine (collect_nil b1 b2 b3 row true _ Q.out.1 Q.out.2.1 Q.out.2.2).mono ?_
   rintro e w4 ⟨A, c, rfl, hb4⟩
   have HB4 := Aside0.mk (below_step HB3.out hb4)
   clear hb4
   go_wp2
   go_ret
   exact ⟨rfl, HB4.out⟩
theorem dnil_law (n m row i : Int) (W : World) (w0 : (Lit.int .i64 n).wf = true) (w1 : (Lit.int .i64 m).wf = true) (w2 : (Lit.int .i64 row).wf = true) (w3 : (Lit.int .i64 i).wf = true) : Calls Try.prog 5 #[.int .i64 n, .int .i64 m, .int .i64 row, .int .i64 i] W fun e w' => e = .returned (.bool true) ∧ Below W.heap.size W w' :=
  dnil_ok n m row i W
end Go.Proofs.Ytofapimappeppaa.Z
