/- slices.Collect and slices.AppendSeq over whatever goes through a row; w.All. -/
import Derived.Test.YtofapimappeppaaDqi
namespace Go.Proofs.Ytofapimappeppaa.Z
open Go.RowKit Go.Shelf Go.Proofs.YtofapimappeppaaW.PrintWords
attribute [local go_sem] Oper.semAt_some
set_option linter.unusedVariables false
set_option linter.unusedSimpArgs false
theorem info_int : (Try.prog.info? 3).map (fun i => (i.zero, i.size, i.bytes)) = some (some (.int .i64 0), 1, 8) := by kernel_rfl
def encI : Nat → Value := fun x => .int .i64 (x : Int)
set_option maxHeartbeats 8000000 in
set_option maxRecDepth 100000 in
theorem append_seq (n : Nat) (hn : 2 ≤ n) (gf : Nat) (lb : Array Value) (eg : ∀ args w, (callFunc gf args).run Try.prog w = .ok (.enter gf args) w) (S Sp : List Nat → Prop) (N : Nat) (hN : N ≤ 1000000) (w : World)
    (hseq : SeqStopsK Fence.wide (n - 1) Try.prog gf lb (fun x : Nat => #[.int .i64 (x : Int)]) (Below w.heap.size) S Sp N w) :
    CallsIn Fence.wide n Try.prog 31 #[.slice none 0 0, .func (.func gf) #[] lb] w fun e W' => ∃ v ys, e = .returned v ∧ S ys ∧ W'.ownsRow w.heap.size 3 1 v ys.length (ys.map encI) ∧ Below w.heap.size w W' := by
  have h1 : 1 ≤ n := by omega
  obtain ⟨i0, hi, hz0, hz1, hz2⟩ := info_parts info_int
  refine callsIn_of_wp_marks Try.func31 rfl trivial ?_ rfl
  simp only [Try.ntmps31, List.size_toArray, List.length_cons, List.length_nil, Nat.reduceAdd, Nat.reduceSub, Array.replicate_succ, Array.replicate_zero, List.push_toArray, List.append_toArray, List.nil_append, List.cons_append]
  gi_wp2
  have bO := Boxed.new w 34 (.slice none 0 0)
  have hB0 : Below w.heap.size w (w.alloc (.cells #[.slice none 0 0] 34)) := (Below.refl _ w).alloc (Nat.le_refl _) _
  refine wpIn_rangeFunc_ownG rfl h1 (gf := gf) (lb := lb) rfl trivial eg
    hseq belowK_t (belowK_b (by simp)) hB0 (fun _ => rfl)
    (fun pre W => (∃ v, Boxed W w.heap.size 34 v ∧ W.ownsRow w.heap.size 3 1 v pre.length (pre.map encI) ∧ True) ∧ Below w.heap.size w W)
    (fun _ _ _ => False)
    (OwnFrom.and (Own.from (holdsRow_own w.heap.size w.heap.size 34 3 1 (fun pre : List Nat => pre.length) (fun pre => pre.map encI) (fun pre v => True)) _) (ownFrom_below (Nat.le_refl _) (by simp)))
    (fun _ _ _ _ _ hs _ _ => hs)
    ⟨⟨_, bO, World.ownsRow_nil _ _ _ _, trivial⟩, hB0⟩
    (fun x => { tmps := #[.slice none 0 0, .func (.func gf) #[] lb, .pointer (some ⟨w.heap.size, 0, none⟩), undef, .slice none 0 0, .int .i64 (x : Int), .func (.func gf) #[] lb, .int .i64 (x : Int), undef, undef, undef, undef, undef], defers := [] }) ?assign ?body ?done ?stop
  case assign =>
    intro l x W K hK
    gi_wp2
    exact hK
  case body =>
    rintro l pre x W ⟨⟨v, hv, hrow, -⟩, hB⟩ hlt
    have hc := hv.cell
    gi_wp2_with (gi_at_builtin; refine wpListIn_append_own _ rfl _ _ 34 rfl w.heap.size 3 i0 (.int .i64 0) 1 8 Try.underlying34 hi hz0 hz1 hz2 rfl (by decide) _ _ _ rfl (hrow.alloc _) ⟨W.heap.size, 0, none⟩ 1 1 [.int .i64 (x : Int)] rfl rfl (cell_one_new _ _ _) (by simp [Value.oneCell']) (by have : maxLen = 9223372036854775807 := rfl; omega) (by omega) (by have := hB.size; simp; omega) ?_; intro v' w1 hown' hgrow _; obtain ⟨g', cap', rfl⟩ := ownsRow_succ hown'; obtain ⟨hv1, hv2, hr2, hk2, hb2⟩ := hv.appended (by decide) hrow hB.size (Nat.le_refl _) hown' hgrow; have hc1 := hv1.cell; have hf1 := hv1.frozen)
    exact ⟨hk2.from _, hb2, ⟨_, hv2, by simpa [encI] using hr2, trivial⟩, hB.trans hb2⟩
  case done =>
    rintro D ys W hD hS ⟨⟨v, hv, hrow, -⟩, hB⟩ hK
    have hc := hv.cell
    gi_wp2
    refine ⟨by simp, .inl ⟨_, _, rfl, run_takeDeferred hK, ?_⟩⟩
    exact ⟨_, results_tmp rfl _ _ _, v, ys, rfl, hS, ownsRow_putObj hrow _ hK rfl, hB.trans (belowK_b (w := w) (Nat.le_refl _) W D _ _ (by simp at hD; omega) hK rfl rfl)⟩
  case stop =>
    rintro D c pre W _ _ h _
    exact h.elim
set_option maxHeartbeats 8000000 in
theorem collect_seq (n : Nat) (hn : 3 ≤ n) (gf : Nat) (lb : Array Value) (eg : ∀ args w, (callFunc gf args).run Try.prog w = .ok (.enter gf args) w) (S Sp : List Nat → Prop) (N : Nat) (hN : N ≤ 1000000) (w : World)
    (hseq : SeqStopsK Fence.wide (n - 1 - 1) Try.prog gf lb (fun x : Nat => #[.int .i64 (x : Int)]) (Below w.heap.size) S Sp N w) :
    CallsIn Fence.wide n Try.prog 20 #[.func (.func gf) #[] lb] w fun e W' => ∃ v ys, e = .returned v ∧ S ys ∧ W'.ownsRow w.heap.size 3 1 v ys.length (ys.map encI) ∧ Below w.heap.size w W' := by
  have h1 : 1 ≤ n := by omega
  refine callsIn_of_wp Try.func20 rfl trivial ?_ rfl
  simp only [Try.ntmps20, List.size_toArray, List.length_cons, List.length_nil, Nat.reduceAdd, Nat.reduceSub, Array.replicate_succ, Array.replicate_zero, List.push_toArray, List.append_toArray, List.nil_append, List.cons_append]
  gi_wp2_with (fail)
  refine ⟨trivial, ?_⟩
  refine (append_seq (n - 1) (by omega) gf lb eg S Sp N hN _ hseq).mono ?_
  rintro e w' ⟨v, ys, rfl, hS, hrow, hb⟩
  gi_wp2
  go_ret
  exact ⟨v, ys, rfl, hS, hrow, hb⟩
/-- w.All(row, back): three boxes. -/
theorem all_any (pt : Option Addr) (row : Int) (back : Bool) (w : World) :
    Calls Try.prog 11 #[.pointer pt, .int .i64 row, .bool back] w fun e w' => ∃ b1 b2 b3, e = .returned (.func (.func 28) #[] #[.pointer (some ⟨b1, 0, none⟩), .pointer (some ⟨b2, 0, none⟩), .pointer (some ⟨b3, 0, none⟩)]) ∧
      Below w.heap.size w w' ∧ (Blk w' b1 23 [.pointer pt] ∧ Blk w' b2 3 [.int .i64 row] ∧ Blk w' b3 4 [.bool back]) := by
  go_enter Try.func11, Try.ntmps11
  go_wp2
  go_ret
  have hb : Below w.heap.size w (((w.alloc (.cells #[.pointer pt] 23)).alloc (.cells #[.int .i64 row] 3)).alloc (.cells #[.bool back] 4)) :=
    (((Below.refl _ w).alloc (Nat.le_refl _) _).alloc (by simp) _).alloc (by simp; omega) _
  have e1 := Blk.new w 23 [.pointer pt]
  have e2 := Blk.new (w.alloc (.cells #[.pointer pt] 23)) 3 [.int .i64 row]
  have e3 := Blk.new ((w.alloc (.cells #[.pointer pt] 23)).alloc (.cells #[.int .i64 row] 3)) 4 [.bool back]
  simp only [World.size_alloc] at e2 e3
  exact ⟨_, _, _, rfl, hb, (e1.alloc _).alloc _, e2.alloc _, e3⟩
theorem seq_stopsX (n : Nat) (hn : 2 ≤ n) (nx b1 b2 b3 g br bl : Nat) (d : Dq) (row : Int) (back : Bool) (lst : List Nat) (w : World) (hq : Seq d row back lst) (hd : DqAt w g br bl d)
    (hB1 : Blk w b1 23 [.pointer (some ⟨g, 0, none⟩)]) (hB2 : Blk w b2 3 [.int .i64 row]) (hB3 : Blk w b3 4 [.bool back]) (k1 : b1 ≠ nx) (k2 : b2 ≠ nx) (k3 : b3 ≠ nx) (k4 : g ≠ nx) (k5 : br ≠ nx) (k6 : bl ≠ nx) :
    SeqStopsK Fence.wide n Try.prog 28 #[.pointer (some ⟨b1, 0, none⟩), .pointer (some ⟨b2, 0, none⟩), .pointer (some ⟨b3, 0, none⟩)] (fun x : Nat => #[.int .i64 (x : Int)]) (BX w.heap.size nx) (fun ys => ys = lst) (fun pre => pre <+: lst) lst.length w :=
  fun l J Jx W hW _ _ hY h0 => all1_in n hn l b1 b2 b3 w.heap.size nx g br bl d row back lst J Jx hY W hq (hd.below hW) (hB1.below hW) (hB2.below hW) (hB3.below hW) ⟨hB1.lt, k1⟩ ⟨hB2.lt, k2⟩ ⟨hB3.lt, k3⟩ ⟨hd.head.lt, k4⟩ ⟨hd.rows.lt, k5⟩ ⟨hd.links.lt, k6⟩ h0
theorem seq_stops (n : Nat) (hn : 2 ≤ n) (b1 b2 b3 g br bl : Nat) (d : Dq) (row : Int) (back : Bool) (lst : List Nat) (w : World) (hq : Seq d row back lst) (hd : DqAt w g br bl d)
    (hB1 : Blk w b1 23 [.pointer (some ⟨g, 0, none⟩)]) (hB2 : Blk w b2 3 [.int .i64 row]) (hB3 : Blk w b3 4 [.bool back]) :
    SeqStopsK Fence.wide n Try.prog 28 #[.pointer (some ⟨b1, 0, none⟩), .pointer (some ⟨b2, 0, none⟩), .pointer (some ⟨b3, 0, none⟩)] (fun x : Nat => #[.int .i64 (x : Int)]) (Below w.heap.size) (fun ys => ys = lst) (fun pre => pre <+: lst) lst.length w :=
  fun l J Jx W hW ha hx hY h0 => seq_stopsX n hn w.heap.size b1 b2 b3 g br bl d row back lst w hq hd hB1 hB2 hB3 (Nat.ne_of_lt hB1.lt) (Nat.ne_of_lt hB2.lt) (Nat.ne_of_lt hB3.lt) (Nat.ne_of_lt hd.head.lt) (Nat.ne_of_lt hd.rows.lt) (Nat.ne_of_lt hd.links.lt) l J Jx W hW ha hx
    (fun pre x W1 hJ hlt => (hY pre x W1 hJ hlt).mono (fun e W' h => h.imp (fun h => ⟨h.1, h.2.1, BX.of_below h.2.2⟩) id)) h0
/-- slices.Collect(w.All(row, back)). -/
theorem collect_row (b1 b2 b3 g br bl : Nat) (d : Dq) (row : Int) (back : Bool) (lst : List Nat) (hl : lst.length ≤ 1000000) (w : World) (hq : Seq d row back lst) (hd : DqAt w g br bl d)
    (hB1 : Blk w b1 23 [.pointer (some ⟨g, 0, none⟩)]) (hB2 : Blk w b2 3 [.int .i64 row]) (hB3 : Blk w b3 4 [.bool back]) :
    Calls Try.prog 20 #[.func (.func 28) #[] #[.pointer (some ⟨b1, 0, none⟩), .pointer (some ⟨b2, 0, none⟩), .pointer (some ⟨b3, 0, none⟩)]] w fun e w' =>
      ∃ v, e = .returned v ∧ Kd.R (Kd.int .i64) 3 w' w.heap.size (fun _ => True) v (ofN lst) ∧ Below w.heap.size w w' := by
  refine callsIn_wide.1 ((collect_seq 5 (by omega) 28 _ (enters_of Try.func28 (by kernel_rfl) rfl) (fun ys => ys = lst) (fun pre => pre <+: lst) lst.length hl w (seq_stops (5 - 1 - 1) (by omega) b1 b2 b3 g br bl d row back lst w hq hd hB1 hB2 hB3)).mono ?_)
  rintro e w' ⟨v, ys, rfl, rfl, ho, hb⟩
  have e : ys.map encI = encs (Value.int .i64) (ofN ys) := by unfold encs ofN; rw [List.map_map]; rfl
  exact ⟨v, rfl, Kd.R_of_own (by rw [ofN_len, ← e]; exact ho) (fun _ _ => trivial), hb⟩
end Go.Proofs.Ytofapimappeppaa.Z
