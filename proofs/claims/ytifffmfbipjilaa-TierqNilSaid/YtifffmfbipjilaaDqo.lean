/- The rows' other methods. -/
import Derived.Test.YtifffmfbipjilaaDqr
namespace Go.Proofs.Ytifffmfbipjilaa.Z
open Go.RowKit Go.Proofs.YtifffmfbipjilaaW.PrintWords Go.Proofs.YtifffmfbipjilaaW.PrintLast Go.Proofs.YtifffmfbipjilaaW.PrintMore
attribute [local go_sem] max2_int min2_int max_two min_two max_three min_three max_four min_four
set_option linter.unusedVariables false
set_option linter.unusedSimpArgs false
set_option maxHeartbeats 8000000 in
theorem remove_nil (i : Int) (w : World) : Calls Try.prog 38 #[.pointer none, .int .i64 i] w fun e w' => e = .returned (.int .i64 3) ∧ w = w' := by
 go_enter Try.func38, Try.ntmps38
 go_wp2
 go_ret
 exact ⟨rfl, rfl⟩
set_option maxHeartbeats 8000000 in
set_option maxRecDepth 100000 in
theorem remove_arg (i : Int) (g br bl : Nat) (d : Dq) (w : World) (hd : DqAt w g br bl d) (h : ¬ (0 ≤ i ∧ i < d.links.length)) : Calls Try.prog 38 #[.pointer (some ⟨g, 0, none⟩), .int .i64 i] w fun e w' => e = .returned (.int .i64 1) ∧ w = w' := by
 have HD := Aside0.mk hd
 have H := Aside0.mk h
 clear hd h
 go_enter Try.func38, Try.ntmps38
 go_wp2_with (go_at_call 57; refine (member_any i g br bl d _ HD.out false (decide_eq_false H.out).symm).mono ?_; rintro e w' ⟨rfl, rfl⟩)
 go_ret
 exact ⟨rfl, rfl⟩
set_option maxHeartbeats 8000000 in
set_option maxRecDepth 100000 in
theorem remove_none (i : Nat) (g br bl : Nat) (d : Dq) (lk : Lk) (w : World) (hd : DqAt w g br bl d) (hl : d.links[i]? = some lk) (hb : lk.row = -1) : Calls Try.prog 38 #[.pointer (some ⟨g, 0, none⟩), .int .i64 i] w fun e w' => e = .returned (.int .i64 3) ∧ w = w' := by
 have hil : i < d.links.length := (List.getElem?_eq_some_iff.1 hl).1
 have hil0 : (0 : Int) ≤ (i : Int) := by omega
 have hil1 : (i : Int) < (d.links.length : Int) := by omega
 obtain ⟨c0, c1, c2⟩ := hd.link hl
 obtain ⟨h0, h1, _, _⟩ := hd.heads
 rw [hb] at c0
 have HD := Aside0.mk hd
 clear hd hl hb
 go_enter Try.func38, Try.ntmps38
 go_wp2_with (go_at_call 57; refine (member_any i g br bl d _ HD.out true (decide_eq_true (by omega)).symm).mono ?_; rintro e w' ⟨rfl, rfl⟩)
 go_ret
 exact ⟨rfl, rfl⟩
set_option maxHeartbeats 8000000 in
theorem end_nil (r : Int) (b : Bool) (w : World) : Calls Try.prog 60 #[.pointer none, .int .i64 r, .bool b] w fun e w' => e = .returned (.tuple #[.int .i64 0, .bool false]) ∧ w = w' := by
 go_enter Try.func60, Try.ntmps60
 go_wp2_with (go_at_call 56; refine (there_nil _ _).mono ?_; rintro e w' ⟨rfl, rfl⟩)
 refine bodyPost_ret (results_tmp2 rfl _ _ _) rfl ?_
 exact ⟨rfl, rfl⟩
set_option maxHeartbeats 8000000 in
theorem end_far (r : Int) (b : Bool) (g br bl : Nat) (d : Dq) (w : World) (hd : DqAt w g br bl d) (h : ¬ (0 ≤ r ∧ r < d.rows.length)) : Calls Try.prog 60 #[.pointer (some ⟨g, 0, none⟩), .int .i64 r, .bool b] w fun e w' => e = .returned (.tuple #[.int .i64 0, .bool false]) ∧ w = w' := by
 have HD := Aside0.mk hd
 have H := Aside0.mk h
 clear hd h
 go_enter Try.func60, Try.ntmps60
 go_wp2_with (go_at_call 56; refine (there_any r g br bl d _ HD.out false (decide_eq_false H.out).symm).mono ?_; rintro e w' ⟨rfl, rfl⟩)
 refine bodyPost_ret (results_tmp2 rfl _ _ _) rfl ?_
 exact ⟨rfl, rfl⟩
set_option maxHeartbeats 8000000 in
theorem end_empty (r : Nat) (b : Bool) (g br bl : Nat) (d : Dq) (rw_ : Rw) (w : World) (hd : DqAt w g br bl d) (hr : d.rows[r]? = some rw_) (hn : rw_.n = 0) : Calls Try.prog 60 #[.pointer (some ⟨g, 0, none⟩), .int .i64 r, .bool b] w fun e w' => e = .returned (.tuple #[.int .i64 0, .bool false]) ∧ w = w' := by
 have hrl : r < d.rows.length := (List.getElem?_eq_some_iff.1 hr).1
 have hrl0 : (0 : Int) ≤ (r : Int) := by omega
 have hrl1 : (r : Int) < (d.rows.length : Int) := by omega
 obtain ⟨b0, b1, b2⟩ := hd.row hr
 obtain ⟨h0, h1, f1, f2⟩ := hd.heads
 rw [hn] at b2
 have HD := Aside0.mk hd
 clear hd hr hn
 go_enter Try.func60, Try.ntmps60
 go_wp2_with (go_at_call 56; refine (there_any r g br bl d _ HD.out true (decide_eq_true (by omega)).symm).mono ?_; rintro e w' ⟨rfl, rfl⟩)
 refine bodyPost_ret (results_tmp2 rfl _ _ _) rfl ?_
 exact ⟨rfl, rfl⟩
set_option maxHeartbeats 8000000 in
theorem end_some (r : Nat) (b : Bool) (g br bl : Nat) (d : Dq) (rw_ : Rw) (w : World) (hd : DqAt w g br bl d) (hr : d.rows[r]? = some rw_) (hn : rw_.n ≠ 0) : Calls Try.prog 60 #[.pointer (some ⟨g, 0, none⟩), .int .i64 r, .bool b] w fun e w' => e = .returned (.tuple #[.int .i64 (if b then rw_.back else rw_.front), .bool true]) ∧ w = w' := by
 have hrl : r < d.rows.length := (List.getElem?_eq_some_iff.1 hr).1
 have hrl0 : (0 : Int) ≤ (r : Int) := by omega
 have hrl1 : (r : Int) < (d.rows.length : Int) := by omega
 obtain ⟨b0, b1, b2⟩ := hd.row hr
 obtain ⟨h0, h1, f1, f2⟩ := hd.heads
 have hnn : (rw_.n == 0) = false := by rw [beq_eq_false_iff_ne]; exact hn
 have HD := Aside0.mk hd
 clear hd hr hn
 cases b
 · go_enter Try.func60, Try.ntmps60
   go_wp2_with (go_at_call 56; refine (there_any r g br bl d _ HD.out true (decide_eq_true (by omega)).symm).mono ?_; rintro e w' ⟨rfl, rfl⟩)
   refine bodyPost_ret (results_tmp2 rfl _ _ _) rfl ?_
   exact ⟨rfl, rfl⟩
 · go_enter Try.func60, Try.ntmps60
   go_wp2_with (go_at_call 56; refine (there_any r g br bl d _ HD.out true (decide_eq_true (by omega)).symm).mono ?_; rintro e w' ⟨rfl, rfl⟩)
   refine bodyPost_ret (results_tmp2 rfl _ _ _) rfl ?_
   exact ⟨rfl, rfl⟩
/-- What an end tells. -/
def Dq.endOf (d : Dq) (r : Int) (b : Bool) : Int × Bool :=
  if 0 ≤ r then
    match d.rows[r.toNat]? with
    | none => (0, false)
    | some rw_ => if rw_.n = 0 then (0, false) else (if b then rw_.back else rw_.front, true)
  else (0, false)
theorem end_any (r : Int) (b : Bool) (g br bl : Nat) (d : Dq) (w : World) (hd : DqAt w g br bl d) : Calls Try.prog 60 #[.pointer (some ⟨g, 0, none⟩), .int .i64 r, .bool b] w fun e w' => e = .returned (.tuple #[.int .i64 (d.endOf r b).1, .bool (d.endOf r b).2]) ∧ w = w' := by
 unfold Dq.endOf
 by_cases h0 : 0 ≤ r
 · rw [if_pos h0]
   cases hr : d.rows[r.toNat]? with
   | none => exact end_far r b g br bl d w hd (fun h => by have := List.getElem?_eq_none_iff.1 hr; omega)
   | some rw_ =>
     have e : r = (r.toNat : Int) := by omega
     by_cases hn : rw_.n = 0
     · simp only [if_pos hn]
       rw [e]; exact end_empty r.toNat b g br bl d rw_ w hd hr hn
     · simp only [if_neg hn]
       rw [e]; exact end_some r.toNat b g br bl d rw_ w hd hr hn
 · rw [if_neg h0]
   exact end_far r b g br bl d w hd (fun h => h0 h.1)
set_option maxHeartbeats 8000000 in
theorem front_any (r : Int) (g br bl : Nat) (d : Dq) (w : World) (hd : DqAt w g br bl d) : Calls Try.prog 36 #[.pointer (some ⟨g, 0, none⟩), .int .i64 r] w fun e w' => e = .returned (.tuple #[.int .i64 (d.endOf r false).1, .bool (d.endOf r false).2]) ∧ w = w' := by
 have HD := Aside0.mk hd
 clear hd
 go_enter Try.func36, Try.ntmps36
 go_wp2_with (go_at_call 60; refine (end_any r false g br bl d _ HD.out).mono ?_; rintro e w' ⟨rfl, rfl⟩)
 refine bodyPost_ret (results_tmp2 rfl _ _ _) rfl ?_
 exact ⟨rfl, rfl⟩
set_option maxHeartbeats 8000000 in
theorem back_any (r : Int) (g br bl : Nat) (d : Dq) (w : World) (hd : DqAt w g br bl d) : Calls Try.prog 52 #[.pointer (some ⟨g, 0, none⟩), .int .i64 r] w fun e w' => e = .returned (.tuple #[.int .i64 (d.endOf r true).1, .bool (d.endOf r true).2]) ∧ w = w' := by
 have HD := Aside0.mk hd
 clear hd
 go_enter Try.func52, Try.ntmps52
 go_wp2_with (go_at_call 60; refine (end_any r true g br bl d _ HD.out).mono ?_; rintro e w' ⟨rfl, rfl⟩)
 refine bodyPost_ret (results_tmp2 rfl _ _ _) rfl ?_
 exact ⟨rfl, rfl⟩
set_option maxHeartbeats 8000000 in
theorem front_nil (r : Int) (w : World) : Calls Try.prog 36 #[.pointer none, .int .i64 r] w fun e w' => e = .returned (.tuple #[.int .i64 0, .bool false]) ∧ w = w' := by
 go_enter Try.func36, Try.ntmps36
 go_wp2_with (go_at_call 60; refine (end_nil r false _).mono ?_; rintro e w' ⟨rfl, rfl⟩)
 refine bodyPost_ret (results_tmp2 rfl _ _ _) rfl ?_
 exact ⟨rfl, rfl⟩
set_option maxHeartbeats 8000000 in
theorem back_nil (r : Int) (w : World) : Calls Try.prog 52 #[.pointer none, .int .i64 r] w fun e w' => e = .returned (.tuple #[.int .i64 0, .bool false]) ∧ w = w' := by
 go_enter Try.func52, Try.ntmps52
 go_wp2_with (go_at_call 60; refine (end_nil r true _).mono ?_; rintro e w' ⟨rfl, rfl⟩)
 refine bodyPost_ret (results_tmp2 rfl _ _ _) rfl ?_
 exact ⟨rfl, rfl⟩
def Dq.whereOf (d : Dq) (i : Int) : Int :=
  if 0 ≤ i then
    match d.links[i.toNat]? with
    | none => -1
    | some lk => lk.row
  else -1
def Dq.lenOf (d : Dq) (r : Int) : Int :=
  if 0 ≤ r then
    match d.rows[r.toNat]? with
    | none => 0
    | some rw_ => rw_.n
  else 0
set_option maxHeartbeats 8000000 in
theorem dlen_far (r : Int) (g br bl : Nat) (d : Dq) (w : World) (hd : DqAt w g br bl d) (h : ¬ (0 ≤ r ∧ r < d.rows.length)) : Calls Try.prog 55 #[.pointer (some ⟨g, 0, none⟩), .int .i64 r] w fun e w' => e = .returned (.int .i64 0) ∧ w = w' := by
 have HD := Aside0.mk hd
 have H := Aside0.mk h
 clear hd h
 go_enter Try.func55, Try.ntmps55
 go_wp2_with (go_at_call 56; refine (there_any r g br bl d _ HD.out false (decide_eq_false H.out).symm).mono ?_; rintro e w' ⟨rfl, rfl⟩)
 go_ret
 exact ⟨rfl, rfl⟩
set_option maxHeartbeats 8000000 in
theorem dlen_at (r : Nat) (g br bl : Nat) (d : Dq) (rw_ : Rw) (w : World) (hd : DqAt w g br bl d) (hr : d.rows[r]? = some rw_) : Calls Try.prog 55 #[.pointer (some ⟨g, 0, none⟩), .int .i64 r] w fun e w' => e = .returned (.int .i64 rw_.n) ∧ w = w' := by
 have hrl : r < d.rows.length := (List.getElem?_eq_some_iff.1 hr).1
 have hrl0 : (0 : Int) ≤ (r : Int) := by omega
 have hrl1 : (r : Int) < (d.rows.length : Int) := by omega
 obtain ⟨b0, b1, b2⟩ := hd.row hr
 obtain ⟨h0, h1, f1, f2⟩ := hd.heads
 have HD := Aside0.mk hd
 clear hd hr
 go_enter Try.func55, Try.ntmps55
 go_wp2_with (go_at_call 56; refine (there_any r g br bl d _ HD.out true (decide_eq_true (by omega)).symm).mono ?_; rintro e w' ⟨rfl, rfl⟩)
 go_ret
 exact ⟨rfl, rfl⟩
theorem dlen_any (r : Int) (g br bl : Nat) (d : Dq) (w : World) (hd : DqAt w g br bl d) : Calls Try.prog 55 #[.pointer (some ⟨g, 0, none⟩), .int .i64 r] w fun e w' => e = .returned (.int .i64 (d.lenOf r)) ∧ w = w' := by
 unfold Dq.lenOf
 by_cases h0 : 0 ≤ r
 · rw [if_pos h0]
   cases hr : d.rows[r.toNat]? with
   | none => exact dlen_far r g br bl d w hd (fun h => by have := List.getElem?_eq_none_iff.1 hr; omega)
   | some rw_ =>
     have e : r = (r.toNat : Int) := by omega
     rw [e]
     exact dlen_at r.toNat g br bl d rw_ w hd hr
 · rw [if_neg h0]
   exact dlen_far r g br bl d w hd (fun h => h0 h.1)
set_option maxHeartbeats 8000000 in
theorem dlen_nil (r : Int) (w : World) : Calls Try.prog 55 #[.pointer none, .int .i64 r] w fun e w' => e = .returned (.int .i64 0) ∧ w = w' := by
 go_enter Try.func55, Try.ntmps55
 go_wp2_with (go_at_call 56; refine (there_nil _ _).mono ?_; rintro e w' ⟨rfl, rfl⟩)
 go_ret
 exact ⟨rfl, rfl⟩
end Go.Proofs.Ytifffmfbipjilaa.Z
