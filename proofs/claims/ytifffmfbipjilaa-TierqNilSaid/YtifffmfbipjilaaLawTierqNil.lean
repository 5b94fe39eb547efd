/- The law TierqNil holds for every input (no condition): the row, over the law's walk. -/
import Derived.Test.YtifffmfbipjilaaRows
import Derived.Test.YtifffmfbipjilaaTqnil
import Derived.WalkKit
import Derived.ProofKit
import Derived.OpenShut
import Derived.ShutString
import Derived.ChangeOld
import Derived.Below
import Derived.SizedLaws
import Derived.Carry
import Derived.Lib.SmallJoins
import Derived.Deep.Slices
import Derived.Deep.Grids
import Derived.Test.YtifffmfbipjilaaWSized
namespace Go.Proofs.Ytifffmfbipjilaa.tierqNil
open Go.ChangeShapes Go.WideShapes Go.ChangeAt Go.RowKit Go.Joins Go.Deep
open Go.ChangeMaps (open_string shut_string)
set_option linter.unusedVariables false
theorem own : ownKnob Try.prog.godebug = none := by kernel_rfl
theorem laidOut : laidOutB Try.prog = true := by kernel_rfl
theorem lst5 (l : List Value) (h : l.length = 5) : ∃ c0 c1 c2 c3 c4, l = [c0, c1, c2, c3, c4] := by
  match l, h with
  | [c0, c1, c2, c3, c4], _ => exact ⟨_, _, _, _, _, rfl⟩
theorem leaf33 {H : Type} {enc : TypeId × Value → H} {w : World} {base : Nat} {spare : Nat → Bool} {held : Bool} {fuel : Nat} {c0 c1 c2 c3 c4 : Value} {z : DataW H × List MemPlace} (hf : DataW.trod enc Try.prog w base spare held fuel 33 [c0, c1, c2, c3, c4] = some z) :
    ∃ (a0 : Int) (a1 : Int) (a2 : Int) (a3 : Int) (a4 : Int), (c0 = Value.int .u64 a0 ∧ c1 = Value.int .i64 a1 ∧ c2 = Value.int .i64 a2 ∧ c3 = Value.int .i64 a3 ∧ c4 = Value.int .i64 a4) ∧ (Lit.int .u64 a0).wf = true ∧ (Lit.int .i64 a1).wf = true ∧ (Lit.int .i64 a2).wf = true ∧ (Lit.int .i64 a3).wf = true ∧ (Lit.int .i64 a4).wf = true ∧ True := by
  obtain ⟨xs, n, _, hx, _, hlen, hg⟩ := DataW.trod_struct Try.underlying33 hf
  match xs, hlen with
  | [y0, y1, y2, y3, y4], _ =>
    have h0 := hg 0 _ rfl
    rw [show Try.prog.cellsOf _ = 1 by kernel_rfl] at h0
    have h0 : DataW.trod enc Try.prog w base spare held n 28 [c0] = some y0 := h0
    obtain ⟨a0, e0, _, w0⟩ := DataW.trod_int Try.underlying28 h0
    obtain rfl : c0 = .int .u64 a0 := by simpa using e0
    have h1 := hg 1 _ rfl
    rw [show Try.prog.cellsOf _ = 1 by kernel_rfl] at h1
    have h1 : DataW.trod enc Try.prog w base spare held n 3 [c1] = some y1 := h1
    obtain ⟨a1, e1, _, w1⟩ := DataW.trod_int Try.underlying3 h1
    obtain rfl : c1 = .int .i64 a1 := by simpa using e1
    have h2 := hg 2 _ rfl
    rw [show Try.prog.cellsOf _ = 1 by kernel_rfl] at h2
    have h2 : DataW.trod enc Try.prog w base spare held n 3 [c2] = some y2 := h2
    obtain ⟨a2, e2, _, w2⟩ := DataW.trod_int Try.underlying3 h2
    obtain rfl : c2 = .int .i64 a2 := by simpa using e2
    have h3 := hg 3 _ rfl
    rw [show Try.prog.cellsOf _ = 1 by kernel_rfl] at h3
    have h3 : DataW.trod enc Try.prog w base spare held n 2 [c3] = some y3 := h3
    obtain ⟨a3, e3, _, w3⟩ := DataW.trod_int Try.underlying2 h3
    obtain rfl : c3 = .int .i64 a3 := by simpa using e3
    have h4 := hg 4 _ rfl
    rw [show Try.prog.cellsOf _ = 1 by kernel_rfl] at h4
    have h4 : DataW.trod enc Try.prog w base spare held n 2 [c4] = some y4 := h4
    obtain ⟨a4, e4, _, w4⟩ := DataW.trod_int Try.underlying2 h4
    obtain rfl : c4 = .int .i64 a4 := by simpa using e4
    exact ⟨a0, a1, a2, a3, a4, ⟨rfl, rfl, rfl, rfl, rfl⟩, w0, w1, w2, w3, w4, trivial⟩
set_option maxRecDepth 100000 in
theorem lifted (os : Os) (started : os.Started) (H : Type) (enc : TypeId × Value → H) :
    ReturnsInHanded {} Try.checked os 7 .any (Rows.tierqNilSpec.pre6 enc Try.prog Try.f7 Rows.tierqNilRow.domain false) (Rows.tierqNilSpec.post enc Try.prog Try.f7 false true false false) := by
  refine returnsInHanded_of_change_sized (C := Try.checked) own started (by kernel_rfl) Try.func7
    (ChangeSpec.witness6 (enc := enc) (C := Try.checked) false ⟨#[], #[.int .i64 0, .int .i64 0, .int .u64 0, .agg #[.int .u64 0, .int .i64 0, .int .i64 0, .int .i64 0, .int .i64 0], .int .u8 0], []⟩ 8 (by kernel_rfl) (by kernel_rfl) (by kernel_rfl) (by kernel_rfl)) ?_
  intro W base args ds gs before hval0 hW hcnd hsz0 _
  have hsz : (DataW.weightsEach Try.prog (Try.f7.params.toList ++ Rows.tierqNilSpec.plain.varTypes Try.prog) (ds ++ gs)).all (· ≤ reachBytes) = true := hsz0
  have hval : ∀ (j : Nat) t v, Try.f7.params[j]? = some t → args[j]? = some v → Value.okWide Try.prog W .any base t v := hval0
  have hW' := hW
  obtain ⟨p, q, hA0, hV, rfl, hfz, hnd⟩ := hW
  have hA : DataW.TrodAll enc Try.prog W 0 (fun _ => true) true Try.f7.params.toList args.toList ds p := hA0
  rw [Try.params7] at hA hval hsz
  obtain ⟨v0, vs0, d0, ds0, p0, q0, hargs, rfl, rfl, h0, r0⟩ := trodAll_cons hA
  obtain ⟨v1, vs1, d1, ds1, p1, q1, rfl, rfl, rfl, h1, r1⟩ := trodAll_cons r0
  obtain ⟨v2, vs2, d2, ds2, p2, q2, rfl, rfl, rfl, h2, r2⟩ := trodAll_cons r1
  obtain ⟨v3, vs3, d3, ds3, p3, q3, rfl, rfl, rfl, h3, r3⟩ := trodAll_cons r2
  obtain ⟨v4, vs4, d4, ds4, p4, q4, rfl, rfl, rfl, h4, r4⟩ := trodAll_cons r3
  obtain ⟨rfl, rfl, rfl⟩ := trodAll_nil r4
  obtain rfl : args = #[v0, v1, v2, v3, v4] := by cases args; simp_all
  obtain ⟨rfl, rfl⟩ := trodVars_none hV
  have k0 := h0
  have lt0 : ∀ x ∈ p0, x.block < W.heap.size := by obtain ⟨m, hm⟩ := k0; exact DataW.trod_lt m _ _ _ hm
  obtain ⟨a0, rfl, _, _, w0⟩ := open_int Try.underlying3 (hval 0 3 v0 rfl rfl) h0
  have k1 := h1
  have lt1 : ∀ x ∈ p1, x.block < W.heap.size := by obtain ⟨m, hm⟩ := k1; exact DataW.trod_lt m _ _ _ hm
  obtain ⟨a1, rfl, _, _, w1⟩ := open_int Try.underlying3 (hval 1 3 v1 rfl rfl) h1
  have k2 := h2
  have lt2 : ∀ x ∈ p2, x.block < W.heap.size := by obtain ⟨m, hm⟩ := k2; exact DataW.trod_lt m _ _ _ hm
  obtain ⟨a2, rfl, _, _, w2⟩ := open_int Try.underlying28 (hval 2 28 v2 rfl rfl) h2
  have k3 := h3
  have lt3 : ∀ x ∈ p3, x.block < W.heap.size := by obtain ⟨m, hm⟩ := k3; exact DataW.trod_lt m _ _ _ hm
  obtain ⟨fuel3, hf3⟩ := h3
  obtain ⟨cs3, rfl, hcl3⟩ := okWide_struct Try.underlying33 (hval 3 33 v3 rfl rfl)
  rw [show Try.prog.cellsOf 33 = 5 by kernel_rfl] at hcl3
  obtain ⟨cs3⟩ := cs3
  obtain ⟨c3_0, c3_1, c3_2, c3_3, c3_4, rfl⟩ := lst5 cs3 hcl3
  obtain ⟨a3_0, a3_1, a3_2, a3_3, a3_4, ⟨rfl, rfl, rfl, rfl, rfl⟩, w3_0, w3_1, w3_2, w3_3, w3_4, _⟩ := leaf33 (by simpa [Value.cells] using hf3)
  have k4 := h4
  have lt4 : ∀ x ∈ p4, x.block < W.heap.size := by obtain ⟨m, hm⟩ := k4; exact DataW.trod_lt m _ _ _ hm
  obtain ⟨a4, rfl, _, _, w4⟩ := open_int Try.underlying5 (hval 4 5 v4 rfl rfl) h4
  clear hA0 hval0 hsz0 hsz
  refine (Z.tierqNil_body a0 a1 a2 a3_0 a3_1 a3_2 a3_3 a3_4 a4 W w0 w1 w2 w3_0 w3_1 w3_2 w3_3 w3_4 w4).mono fun e W' ⟨he, bel⟩ => ?_
  subst he
  exact ⟨_, rfl, _, _, _, [], _, [], hW', trodAll_mk1 (shut_bool Try.underlying4 _), (trodAll_cons_mk (Below.trod laidOut (by kernel_rfl) (of_decide_eq_true (by kernel_rfl)) k0 bel lt0) (trodAll_cons_mk (Below.trod laidOut (by kernel_rfl) (of_decide_eq_true (by kernel_rfl)) k1 bel lt1) (trodAll_cons_mk (Below.trod laidOut (by kernel_rfl) (of_decide_eq_true (by kernel_rfl)) k2 bel lt2) (trodAll_cons_mk (Below.trod laidOut (by kernel_rfl) (of_decide_eq_true (by kernel_rfl)) k3 bel lt3) (trodAll_cons_mk (Below.trod laidOut (by kernel_rfl) (of_decide_eq_true (by kernel_rfl)) k4 bel lt4) trodAll_mk0))))), rfl, bel.frame _, fun h => by cases h⟩
theorem over : Rows.tierqNilRow.holds Try.pinned (OpenSpec.ofChange Rows.tierqNilSpec) :=
  OpenClaim.holds_of_wide 7 Try.f7 rfl rfl rfl rfl rfl rfl rfl ⟨rfl, rfl, rfl, rfl, rfl⟩ rfl rfl rfl rfl rfl (by kernel_rfl) Try.func7 (by kernel_rfl)
    (of_decide_eq_true (by kernel_rfl)) (by unfold Func.isWrapper; first | (rw [if_pos (by decide +kernel)]; kernel_rfl) | (rw [if_neg (by decide +kernel)]; exact ⟨rfl, rfl⟩))
    (fun os started H enc _ => lifted os started H enc)
theorem proved : Rows.TierqNilSaid := over
#print axioms proved
end Go.Proofs.Ytifffmfbipjilaa.tierqNil
namespace Go.Proofs.Ytifffmfbipjilaa
theorem tierqNil_holds : Rows.TierqNilSaid := tierqNil.proved
end Go.Proofs.Ytifffmfbipjilaa
