/- The law TierqDues holds for every input (no condition): the row, over the law's walk. -/
import Derived.Test.YtifffmfbipjilaaRows
import Derived.Test.YtifffmfbipjilaaTqdues
import Derived.WalkKit
import Derived.ProofKit
import Derived.OpenShut
import Derived.ShutString
import Derived.ChangeOld
import Derived.Below
import Derived.SizedLaws
import Derived.Carry
import Derived.Lib.SmallJoins
import Derived.Deep.Slices
import Derived.Deep.Grids
import Derived.Test.YtifffmfbipjilaaWSized
namespace Go.Proofs.Ytifffmfbipjilaa.tierqDues
open Go.ChangeShapes Go.WideShapes Go.ChangeAt Go.RowKit Go.Joins Go.Deep
open Go.ChangeMaps (open_string shut_string)
set_option linter.unusedVariables false
theorem own : ownKnob Try.prog.godebug = none := by kernel_rfl
theorem laidOut : laidOutB Try.prog = true := by kernel_rfl
theorem leaf33 {H : Type} {enc : TypeId × Value → H} {w : World} {base : Nat} {spare : Nat → Bool} {held : Bool} {fuel : Nat} {c0 c1 c2 c3 c4 : Value} {z : DataW H × List MemPlace} (hf : DataW.trod enc Try.prog w base spare held fuel 33 [c0, c1, c2, c3, c4] = some z) :
    ∃ (a0 : Int) (a1 : Int) (a2 : Int) (a3 : Int) (a4 : Int), (c0 = Value.int .u64 a0 ∧ c1 = Value.int .i64 a1 ∧ c2 = Value.int .i64 a2 ∧ c3 = Value.int .i64 a3 ∧ c4 = Value.int .i64 a4) ∧ (Lit.int .u64 a0).wf = true ∧ (Lit.int .i64 a1).wf = true ∧ (Lit.int .i64 a2).wf = true ∧ (Lit.int .i64 a3).wf = true ∧ (Lit.int .i64 a4).wf = true ∧ True := by
  obtain ⟨xs, n, _, hx, _, hlen, hg⟩ := DataW.trod_struct Try.underlying33 hf
  match xs, hlen with
  | [y0, y1, y2, y3, y4], _ =>
    have h0 := hg 0 _ rfl
    rw [show Try.prog.cellsOf _ = 1 by kernel_rfl] at h0
    have h0 : DataW.trod enc Try.prog w base spare held n 28 [c0] = some y0 := h0
    obtain ⟨a0, e0, _, w0⟩ := DataW.trod_int Try.underlying28 h0
    obtain rfl : c0 = .int .u64 a0 := by simpa using e0
    have h1 := hg 1 _ rfl
    rw [show Try.prog.cellsOf _ = 1 by kernel_rfl] at h1
    have h1 : DataW.trod enc Try.prog w base spare held n 3 [c1] = some y1 := h1
    obtain ⟨a1, e1, _, w1⟩ := DataW.trod_int Try.underlying3 h1
    obtain rfl : c1 = .int .i64 a1 := by simpa using e1
    have h2 := hg 2 _ rfl
    rw [show Try.prog.cellsOf _ = 1 by kernel_rfl] at h2
    have h2 : DataW.trod enc Try.prog w base spare held n 3 [c2] = some y2 := h2
    obtain ⟨a2, e2, _, w2⟩ := DataW.trod_int Try.underlying3 h2
    obtain rfl : c2 = .int .i64 a2 := by simpa using e2
    have h3 := hg 3 _ rfl
    rw [show Try.prog.cellsOf _ = 1 by kernel_rfl] at h3
    have h3 : DataW.trod enc Try.prog w base spare held n 2 [c3] = some y3 := h3
    obtain ⟨a3, e3, _, w3⟩ := DataW.trod_int Try.underlying2 h3
    obtain rfl : c3 = .int .i64 a3 := by simpa using e3
    have h4 := hg 4 _ rfl
    rw [show Try.prog.cellsOf _ = 1 by kernel_rfl] at h4
    have h4 : DataW.trod enc Try.prog w base spare held n 2 [c4] = some y4 := h4
    obtain ⟨a4, e4, _, w4⟩ := DataW.trod_int Try.underlying2 h4
    obtain rfl : c4 = .int .i64 a4 := by simpa using e4
    exact ⟨a0, a1, a2, a3, a4, ⟨rfl, rfl, rfl, rfl, rfl⟩, w0, w1, w2, w3, w4, trivial⟩
theorem rows42 {H : Type} {enc : TypeId × Value → H} {W : World} {fuel : Nat} {a : Option Addr} {len cap : Nat} {z : DataW H × List MemPlace} (h : DataW.trod enc Try.prog W 0 (fun _ => true) true fuel 42 [.slice a len cap] = some z) :
    ∃ l : List Z.Rq, len = l.length ∧ Go.Proofs.YtifffmfbipjilaaW.PrintWords.Kd.C Z.Rq.kd W a l.length l ∧ l.length ≤ cap ∧ cap ≤ maxLen ∧ ∀ s ∈ l, s.ok := by
  rcases open_slice Try.underlying42 h with ⟨hcs, _⟩ | ⟨a', len', cap', m, n, D, Pl, hcs, _, hl, hm, hmm, _, hel⟩
  · simp at hcs
    obtain ⟨rfl, rfl, rfl⟩ := hcs
    exact ⟨[], rfl, ⟨rfl, by decide, fun h => absurd h (by decide)⟩, Nat.zero_le _, Nat.zero_le _, fun s hs => by cases hs⟩
  · simp at hcs
    obtain ⟨rfl, rfl, rfl⟩ := hcs
    have each : ∀ i, i < len → ∃ s : Z.Rq, s.ok ∧ ∀ j u, (Z.Rq.enc s)[j]? = some u → W.cell? (a'.add (i * 5 + j)) = some u := by
      intro i hi
      obtain ⟨cs, h1, h2⟩ := hel i (by rw [hmm]; simp; omega)
      rw [show Try.prog.cellsOf 33 = 5 by kernel_rfl] at h1
      obtain ⟨_, hlen, hc⟩ := World.cells?_some h1
      match cs, hlen, hc, h2 with
      | [c0, c1, c2, c3, c4], _, hc, h2 =>
        obtain ⟨a0, a1, a2, a3, a4, ⟨rfl, rfl, rfl, rfl, rfl⟩, w0, w1, w2, w3, w4, _⟩ := leaf33 h2
        refine ⟨⟨a0, a1, a2, a3, a4⟩, ⟨w0, w1, w2, w3, w4⟩, fun j u hu => ?_⟩
        have hj : j < 5 := (List.getElem?_eq_some_iff.1 hu).1
        have z_ := hc j hj
        rw [Addr.add_add] at z_
        rw [z_]; exact hu
    by_cases h0 : len = 0
    · subst h0
      exact ⟨[], rfl, ⟨rfl, by decide, fun h => absurd h (by decide)⟩, Nat.zero_le _, hm, fun s hs => by cases hs⟩
    let F : Nat → Z.Rq := fun i => if hi : i < len then (each i hi).choose else (each 0 (by omega)).choose
    have hF : ∀ i (hi : i < len), F i = (each i hi).choose := fun i hi => dif_pos hi
    refine ⟨(List.range len).map F, by simp, ⟨rfl, ?_, fun _ => ⟨a', rfl, fun j p hp => ?_⟩⟩, ?_, hm, ?_⟩
    · have : maxLen ≤ 9223372036854775807 := by decide
      simp only [List.length_map, List.length_range]; omega
    · rw [List.getElem?_map] at hp
      obtain ⟨i, hi, rfl⟩ := Option.map_eq_some_iff.1 hp
      obtain ⟨hj, e⟩ := List.getElem?_eq_some_iff.1 hi
      rw [List.getElem_range] at e
      subst e
      rw [List.length_range] at hj
      have sp := (each j hj).choose_spec
      rw [← hF j hj] at sp
      exact ⟨_, rfl, rfl, sp.2⟩
    · simpa using hl
    · intro s hs
      obtain ⟨i, hi, rfl⟩ := List.mem_map.1 hs
      rw [List.mem_range] at hi
      have sp := (each i hi).choose_spec
      rw [← hF i hi] at sp
      exact sp.1
set_option maxRecDepth 100000 in
theorem lifted (os : Os) (started : os.Started) (H : Type) (enc : TypeId × Value → H) :
    ReturnsInHanded {} Try.checked os 5 .any (Rows.tierqDuesSpec.pre6 enc Try.prog Try.f5 Rows.tierqDuesRow.domain false) (Rows.tierqDuesSpec.post enc Try.prog Try.f5 false true false false) := by
  refine returnsInHanded_of_change_sized (C := Try.checked) own started (by kernel_rfl) Try.func5
    (ChangeSpec.witness6 (enc := enc) (C := Try.checked) false ⟨#[], #[.slice none 0 0, .int .i64 0], []⟩ 8 (by kernel_rfl) (by kernel_rfl) (by kernel_rfl) (by kernel_rfl)) ?_
  intro W base args ds gs before hval0 hW hcnd hsz0 _
  have hsz : (DataW.weightsEach Try.prog (Try.f5.params.toList ++ Rows.tierqDuesSpec.plain.varTypes Try.prog) (ds ++ gs)).all (· ≤ reachBytes) = true := hsz0
  have hval : ∀ (j : Nat) t v, Try.f5.params[j]? = some t → args[j]? = some v → Value.okWide Try.prog W .any base t v := hval0
  have hW' := hW
  obtain ⟨p, q, hA0, hV, rfl, hfz, hnd⟩ := hW
  have hA : DataW.TrodAll enc Try.prog W 0 (fun _ => true) true Try.f5.params.toList args.toList ds p := hA0
  rw [Try.params5] at hA hval hsz
  obtain ⟨v0, vs0, d0, ds0, p0, q0, hargs, rfl, rfl, h0, r0⟩ := trodAll_cons hA
  obtain ⟨v1, vs1, d1, ds1, p1, q1, rfl, rfl, rfl, h1, r1⟩ := trodAll_cons r0
  obtain ⟨rfl, rfl, rfl⟩ := trodAll_nil r1
  obtain rfl : args = #[v0, v1] := by cases args; simp_all
  obtain ⟨rfl, rfl⟩ := trodVars_none hV
  have k0 := h0
  have lt0 : ∀ x ∈ p0, x.block < W.heap.size := by obtain ⟨m, hm⟩ := k0; exact DataW.trod_lt m _ _ _ hm
  obtain ⟨a0, len0, cap0, rfl⟩ := okWide_slice Try.underlying42 (hval 0 42 v0 rfl rfl)
  obtain ⟨fuel0, hf0⟩ := h0
  obtain ⟨l0, rfl, hr0, hc0, hm0, hw0⟩ := rows42 (by simpa [Value.cells] using hf0)
  have k1 := h1
  have lt1 : ∀ x ∈ p1, x.block < W.heap.size := by obtain ⟨m, hm⟩ := k1; exact DataW.trod_lt m _ _ _ hm
  obtain ⟨a1, rfl, _, _, w1⟩ := open_int Try.underlying2 (hval 1 2 v1 rfl rfl) h1
  clear hA0 hval0 hsz0 hsz
  refine (Z.tierqDues_body a0 cap0 l0 a1 W hr0 hc0 hm0 hw0 w1).mono fun e W' ⟨he, bel⟩ => ?_
  subst he
  exact ⟨_, rfl, _, _, _, [], _, [], hW', trodAll_mk1 (shut_bool Try.underlying4 _), (trodAll_cons_mk (Below.trod laidOut (by kernel_rfl) (of_decide_eq_true (by kernel_rfl)) k0 bel lt0) (trodAll_cons_mk (Below.trod laidOut (by kernel_rfl) (of_decide_eq_true (by kernel_rfl)) k1 bel lt1) trodAll_mk0)), rfl, bel.frame _, fun h => by cases h⟩
theorem over : Rows.tierqDuesRow.holds Try.pinned (OpenSpec.ofChange Rows.tierqDuesSpec) :=
  OpenClaim.holds_of_wide 5 Try.f5 rfl rfl rfl rfl rfl rfl rfl ⟨rfl, rfl, rfl, rfl, rfl⟩ rfl rfl rfl rfl rfl (by kernel_rfl) Try.func5 (by kernel_rfl)
    (of_decide_eq_true (by kernel_rfl)) (by unfold Func.isWrapper; first | (rw [if_pos (by decide +kernel)]; kernel_rfl) | (rw [if_neg (by decide +kernel)]; exact ⟨rfl, rfl⟩))
    (fun os started H enc _ => lifted os started H enc)
theorem proved : Rows.TierqDuesSaid := over
#print axioms proved
end Go.Proofs.Ytifffmfbipjilaa.tierqDues
namespace Go.Proofs.Ytifffmfbipjilaa
theorem tierqDues_holds : Rows.TierqDuesSaid := tierqDues.proved
end Go.Proofs.Ytifffmfbipjilaa
