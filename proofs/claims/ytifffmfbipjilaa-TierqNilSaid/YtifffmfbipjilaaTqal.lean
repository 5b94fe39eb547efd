/- A range over an iterator which itself ranges over another: the caller's word abides whatever the iterator's own loops turn. -/
import Derived.Test.YtifffmfbipjilaaZlib
import Derived.RangeFuncNested
import Derived.RangeFuncBound
import Derived.RangeFuncCalls
import Derived.RangeFuncLeaves
import Derived.Deep.RegionHeld3
import Derived.OrdersIn
import Derived.TacticsIn
import Derived.Test.YtifffmfbipjilaaDqi
import Derived.Test.YtifffmfbipjilaaTqb
import Derived.StillTailTactics
import Derived.ControlIn
namespace Go.Proofs.Ytifffmfbipjilaa.Z
open Go Go.RowKit
set_option linter.unusedVariables false
set_option linter.unusedSimpArgs false
variable {F : Fence} {n : Nat} {P : Program}
/-- An iterator's contract, asked only at words of the caller that abide the turn of what is no cells and was laid since. -/
def SeqO {α : Type} (F : Fence) (n : Nat) (P : Program) (g : Nat) (lb : Array Value) (encs : α → Array Value) (Kp : World → World → Prop) (S Sp : List α → Prop) (N : Nat) (B : Nat) (w : World) : Prop :=
  ∀ (l : Nat) (J Jx : List α → World → Prop) (W : World), Below w.heap.size w W → B ≤ W.heap.size → OwnFrom W.heap.size J → OwnFrom W.heap.size Jx →
    (∀ pre x W1, J pre W1 → pre.length < N → YieldAt F (n - 1) P l (encs x) W1 fun e W' =>
      (e = .returned (.bool true) ∧ J (pre ++ [x]) W' ∧ Kp W1 W') ∨ (e = .returned (.bool false) ∧ Jx (pre ++ [x]) W' ∧ KeepsFrom B W1 W')) →
    J [] W →
    CallsIn F n P g (#[.func (.yield l) #[] #[]] ++ lb) W fun e W' => (∃ v, e = .returned v) ∧ ((∃ xs, S xs ∧ J xs W') ∨ (∃ pre, Sp pre ∧ Jx pre W'))
theorem KeepsFrom.up {B B' : Nat} {W W' : World} (h : KeepsFrom B W W') (hB : B ≤ B') : KeepsFrom B' W W' := ⟨h.size, fun k o hk h0 ho => h.same k o (Nat.le_trans hB hk) h0 ho⟩
theorem kf_put {B C : Nat} (W : World) (o : Obj) (h : B < C) : KeepsFrom C W (W.putObj B o) := ⟨by simp, fun k p hk hp _ => (World.putObj_heap_other (by omega)).trans hp⟩
/-- The loop's two blocks: its record, the rounds' deferred calls. -/
def Bk (B : Nat) (r : Loop) (W : World) : Prop := W.heap[B + 1]? = some (.loop r) ∧ W.heap[B]? = some (.deferred (some []))
theorem Bk.lt {B : Nat} {r : Loop} {W : World} (h : Bk B r W) : B + 1 < W.heap.size := (Array.getElem?_eq_some_iff.1 h.1).1
theorem Bk.turn {B : Nat} {r r' : Loop} {W : World} (h : Bk B r W) : Bk B r' (W.putObj (B + 1) (.loop r')) :=
  ⟨World.putObj_heap_same h.lt, (World.putObj_heap_other (by omega)).trans h.2⟩
theorem Bk.keep {B : Nat} {r : Loop} {W V : World} (h : Bk B r W) (k : KeepsFrom B W V) : Bk B r V := ⟨k.same _ _ (by omega) h.1 rfl, k.same _ _ (Nat.le_refl _) h.2 rfl⟩
theorem Bk.far {B C : Nat} {r : Loop} (hC : B + 2 ≤ C) : OwnFrom C (fun (_ : Unit) W => Bk B r W) := fun s X Y row hs hg hr => by
  have lt := hs.lt
  have same : ∀ j, j < B + 2 → Y.heap[j]? = X.heap[j]? := fun j hj => hg.block j (by omega) (fun e => by have := (hr j e.symm).1; omega)
  exact ⟨(same _ (by omega)).trans hs.1, (same _ (by omega)).trans hs.2⟩
theorem range_O {α : Type} {g : Operand} {ps : Array Tmp} {assign body : Code} {Q : Exit → Act → World → Prop} {a : Act} {w : World}
    (hro : F.round = none) (h1 : 1 ≤ n) {gf : Nat} {lb : Array Value} (hg : a.eval g = .func (.func gf) #[] lb) (hFg : F.fn gf) (eg : ∀ args w, (callFunc gf args).run P w = .ok (.enter gf args) w)
    {encs : α → Array Value} {Kp : World → World → Prop} {S Sp : List α → Prop} {N : Nat} {w0 : World} (hseq : SeqO F (n - 1) P gf lb encs Kp S Sp N (w.heap.size + 2) w0)
    (hKt : ∀ {A B C : World}, Kp A B → Kp B C → Kp A C) (hKb : ∀ (W : World) (o o' : Obj), W.heap[w.heap.size + 1]? = some o → o.isCells = false → o.isWalk = false → Kp W (W.putObj (w.heap.size + 1) o')) (hb0 : Below w0.heap.size w0 w) (hps : ∀ x, (encs x).size = ps.size)
    (I : List α → World → Prop) (Ix : Code → List α → World → Prop) (hI : OwnFrom w.heap.size I) (hIx : ∀ c, OwnFrom w.heap.size (Ix c)) (h0 : I [] w) (Ax : α → Act → World → Prop) (hAx : ∀ x a', OwnFrom w.heap.size (fun (_ : Unit) W => Ax x a' W))
    (hassign : ∀ (l : Nat) (pre : List α) (x : α) (W : World) (K : Act → World → Prop), I pre W → (∀ a' W', KeepsFrom w.heap.size W W' → Kp W W' → I pre W' → Ax x a' W' → K a' W') →
      assign.wpIn (F.inRound l) (n - 1 - 1) P (Exit.then K (fun _ _ _ => False)) { tmps := (ps.zip (encs x)).foldl (fun t (p, v) => t.setIfInBounds p v) a.tmps, defers := [] } W)
    (hbody : ∀ (l : Nat) (pre : List α) (x : α) (a' : Act) (W : World), w.heap.size ≤ l → (∃ r, W.heap[l]? = some (.loop r)) → I pre W → Ax x a' W → pre.length < N → body.wpIn (F.inRound l) (n - 1 - 1) P (ownPostG w.heap.size Kp I Ix (pre ++ [x]) W) a' W)
    (hdone : ∀ (D : Nat) (xs : List α) (W : World), w.heap.size ≤ D → S xs → I xs W → W.heap[D]? = some (.deferred (some [])) → Q .normal { a with defers := { target := .collected D, args := #[] } :: a.defers } W)
    (hstop : ∀ (D : Nat) (c : Code) (pre : List α) (W : World), w.heap.size ≤ D → Sp pre → Ix c pre W → W.heap[D]? = some (.deferred (some [])) → c.wpIn F n P Q { a with defers := { target := .collected D, args := #[] } :: a.defers } W) :
    (Code.rangeFunc g ps assign body).wpIn F n P Q a w := by
  refine wpIn_rangeFunc fun fn hfn => ?_
  rw [hro]
  obtain ⟨B, hB⟩ : ∃ B, w.heap.size = B := ⟨_, rfl⟩
  rw [hB] at hI hIx hAx hassign hbody hdone hstop hKb hseq
  obtain ⟨rec, hrec⟩ : ∃ rec : LoopState → Option Code → Loop, rec = fun st pe => { state := st, pending := pe, fn, tmps := a.tmps, params := ps, assign, body, defers := B } := ⟨_, rfl⟩
  obtain ⟨W1, hW1⟩ : ∃ W1, W1 = (w.alloc (.deferred (some []))).alloc (.loop (rec .ready none)) := ⟨_, rfl⟩
  have hsz : W1.heap.size = B + 2 := by rw [hW1, ← hB]; simp
  have hbk : Bk B (rec .ready none) W1 := by
    constructor
    · have := World.alloc_heap_new (w.alloc (.deferred (some []))) (.loop (rec .ready none))
      rw [World.size_alloc, hB] at this
      rw [hW1]; exact this
    · rw [hW1, ← hB]; exact (Below.heap_alloc _ _ _ (by simp)).trans (World.alloc_heap_new w _)
  have hI1 : I [] W1 := by rw [hW1]; exact hI.alloc _ (hI.alloc _ h0)
  have hb1 : Below w0.heap.size w0 W1 := by
    rw [hW1]; exact hb0.trans ((((Below.refl _ w).alloc (Nat.le_refl _) _).alloc (by simp) _).mono hb0.size)
  have up : ∀ {β : Type} {J : β → World → Prop}, OwnFrom B J → OwnFrom W1.heap.size J := fun hJ s X Y row hs hg' hr => hJ s X Y row hs hg' (fun r e => ⟨by have := (hr r e).1; omega, (hr r e).2⟩)
  refine ⟨B + 1, [{ target := .collected B, args := #[] }], W1, { target := .fn (.func gf) lb, args := #[.func (.yield (B + 1)) #[] #[]] }, W1, gf, #[.func (.yield (B + 1)) #[] #[]] ++ lb, W1, ?_, ?_, ?_, ?_, fun _ => h1, ?_⟩
  · rw [hW1, hrec, ← hB]; exact run_enterLoop_outer _ _ _ _ _
  · simp only [resolve, hg]
    simp [go_sem]
  · intro f' hf'; simp [Target.leads] at hf'; subst hf'; exact hFg
  · simp [invoke, go_sem, eg]
  refine (hseq (B + 1) (fun pre W => I pre W ∧ Bk B (rec .ready none) W) (fun pre W => ∃ c, Ix c pre W ∧ Bk B (rec .done (some c)) W) W1 hb1 (Nat.le_of_eq hsz.symm) ?_ ?_ ?_ ⟨hI1, hbk⟩).mono ?_
  · exact fun s X Y row hs hg' hr => ⟨up hI s X Y row hs.1 hg' hr, Bk.far (Nat.le_of_eq hsz.symm) () X Y row hs.2 hg' hr⟩
  · rintro s X Y row ⟨c, hc, hk⟩ hg' hr
    exact ⟨c, up (hIx c) s X Y row hc hg' hr, Bk.far (Nat.le_of_eq hsz.symm) () X Y row hk hg' hr⟩
  · rintro pre x W ⟨hi, hk⟩ hlen
    have hy := run_yield (P := P) (args := encs x) hk.1 (by rw [hrec]; exact hps x)
    rw [hrec] at hy
    refine ⟨fn, _, assign, body, hy, roundIn_of_wpIn hfn (hassign _ pre x W _ hi ?_)⟩
    intro a' V hkV hKV hiV hax
    have hkv := hk.keep hkV
    refine ⟨_, run_beginRound hkv.1 (by rw [hrec]), ?_⟩
    have hk2 := hkv.turn (r' := { rec .ready none with state := .busy })
    refine wpIn_mono (hbody _ pre x a' _ (by omega) ⟨_, hk2.1⟩ (hI.putObj _ hiV (by omega) hkv.1 rfl) ((hAx x a').putObj (s := ()) _ hax (by omega) hkv.1 rfl) hlen) ?_
    have ends : ∀ (jump : Option Code) (W3 : World), KeepsFrom B (V.putObj (B + 1) (.loop { rec .ready none with state := .busy })) W3 →
        (Instr.endRound (B + 1) jump).run P W3 = .ok (.bool jump.isNone) (W3.putObj (B + 1) (.loop (rec (if jump.isNone then .ready else .done) jump))) ∧ Bk B { rec .ready none with state := .busy } W3 := fun jump W3 h3 => by
      have h4 := hk2.keep h3
      have := run_endRound (P := P) jump h4.1
      rw [hrec] at this
      rw [hrec] at h4 ⊢
      exact ⟨this, h4⟩
    have out : ∀ (c : Code) (W3 : World), KeepsFrom B (V.putObj (B + 1) (.loop { rec .ready none with state := .busy })) W3 → Ix c (pre ++ [x]) W3 →
        ∃ r W4, (Instr.endRound (B + 1) (some c)).run P W3 = .ok (.bool r) W4 ∧ r = false ∧ (∃ c, Ix c (pre ++ [x]) W4 ∧ Bk B (rec .done (some c)) W4) ∧ KeepsFrom (B + 2) W W4 := fun c W3 h3 hi3 => by
      obtain ⟨hr, h4⟩ := ends (some c) W3 h3
      exact ⟨_, _, hr, rfl, ⟨c, (hIx c).putObj _ hi3 (by omega) h4.1 rfl, h4.turn⟩, ((KeepsFrom.up hkV (by omega)).trans (kf_put _ _ (by omega))).trans ((KeepsFrom.up h3 (by omega)).trans (kf_put _ _ (by omega)))⟩
    rintro e a3 W3 hp
    cases e with
    | normal =>
      obtain ⟨h3, hK3, hi3⟩ := hp
      obtain ⟨hr, h4⟩ := ends none W3 h3
      exact ⟨_, _, hr, .inl ⟨rfl, ⟨hI.putObj _ hi3 (by omega) h4.1 rfl, h4.turn⟩, hKt hKV (hKt (hKb _ _ _ hkv.1 rfl rfl) (hKt hK3 (hKb _ _ _ h4.1 rfl rfl)))⟩⟩
    | ret => obtain ⟨r, W4, hr, rfl, h4⟩ := out _ W3 hp.1 hp.2; exact ⟨_, _, hr, .inr ⟨rfl, h4⟩⟩
    | exit id => obtain ⟨r, W4, hr, rfl, h4⟩ := out _ W3 hp.1 hp.2; exact ⟨_, _, hr, .inr ⟨rfl, h4⟩⟩
    | goto t => obtain ⟨r, W4, hr, rfl, h4⟩ := out _ W3 hp.1 hp.2; exact ⟨_, _, hr, .inr ⟨rfl, h4⟩⟩
    | panic ch => exact hp.elim
    | outgrown => exact hp.elim
  · rintro e W2 ⟨⟨v, rfl⟩, (⟨xs, hS, hi, hk⟩ | ⟨pre, hSp, c, hi, hk⟩)⟩
    · refine ⟨none, W2.putObj (B + 1) (.loop { rec .ready none with state := .exhausted }), ?_, hdone _ xs _ (Nat.le_refl _) hS (hI.putObj _ hi (by omega) hk.1 rfl) ((World.putObj_heap_other (by omega)).trans hk.2)⟩
      have := run_endLoop (P := P) hk.1 (by rw [hrec]; simp)
      rw [hrec] at this ⊢
      exact this
    · refine ⟨some c, W2.putObj (B + 1) (.loop { rec .done (some c) with state := .exhausted }), ?_, hstop _ c pre _ (Nat.le_refl _) hSp ((hIx c).putObj _ hi (by omega) hk.1 rfl) ((World.putObj_heap_other (by omega)).trans hk.2)⟩
      have := run_endLoop (P := P) hk.1 (by rw [hrec]; simp)
      rw [hrec] at this ⊢
      exact this
/-- The same, where the assignment of the loop's variables is known ahead of the world. -/
theorem range_OG {α : Type} {g : Operand} {ps : Array Tmp} {assign body : Code} {Q : Exit → Act → World → Prop} {a : Act} {w : World}
    (hro : F.round = none) (h1 : 1 ≤ n) {gf : Nat} {lb : Array Value} (hg : a.eval g = .func (.func gf) #[] lb) (hFg : F.fn gf) (eg : ∀ args w, (callFunc gf args).run P w = .ok (.enter gf args) w)
    {encs : α → Array Value} {Kp : World → World → Prop} {S Sp : List α → Prop} {N : Nat} {w0 : World} (hseq : SeqO F (n - 1) P gf lb encs Kp S Sp N (w.heap.size + 2) w0)
    (hKt : ∀ {A B C : World}, Kp A B → Kp B C → Kp A C) (hKb : ∀ (W : World) (o o' : Obj), W.heap[w.heap.size + 1]? = some o → o.isCells = false → o.isWalk = false → Kp W (W.putObj (w.heap.size + 1) o')) (hKr : ∀ W, Kp W W) (hb0 : Below w0.heap.size w0 w) (hps : ∀ x, (encs x).size = ps.size)
    (I : List α → World → Prop) (Ix : Code → List α → World → Prop) (hI : OwnFrom w.heap.size I) (hIx : ∀ c, OwnFrom w.heap.size (Ix c)) (h0 : I [] w) (a₁ : α → Act)
    (hassign : ∀ (l : Nat) (x : α) (W : World) (K : Act → World → Prop), K (a₁ x) W →
      assign.wpIn (F.inRound l) (n - 1 - 1) P (Exit.then K (fun _ _ _ => False)) { tmps := (ps.zip (encs x)).foldl (fun t (p, v) => t.setIfInBounds p v) a.tmps, defers := [] } W)
    (hbody : ∀ (l : Nat) (pre : List α) (x : α) (W : World), I pre W → pre.length < N → body.wpIn (F.inRound l) (n - 1 - 1) P (ownPostG w.heap.size Kp I Ix (pre ++ [x]) W) (a₁ x) W)
    (hdone : ∀ (D : Nat) (xs : List α) (W : World), w.heap.size ≤ D → S xs → I xs W → W.heap[D]? = some (.deferred (some [])) → Q .normal { a with defers := { target := .collected D, args := #[] } :: a.defers } W)
    (hstop : ∀ (D : Nat) (c : Code) (pre : List α) (W : World), w.heap.size ≤ D → Sp pre → Ix c pre W → W.heap[D]? = some (.deferred (some [])) → c.wpIn F n P Q { a with defers := { target := .collected D, args := #[] } :: a.defers } W) :
    (Code.rangeFunc g ps assign body).wpIn F n P Q a w :=
  range_O hro h1 hg hFg eg hseq (fun h k => hKt h k) hKb hb0 hps I Ix hI hIx h0 (fun x a' _ => a' = a₁ x) (fun _ _ _ _ _ _ hs _ _ => hs)
    (fun l pre x W K hi hK => hassign l x W K (hK _ _ (KeepsFrom.refl _ _) (hKr W) hi rfl)) (fun l pre x a' W _ _ hi e => by subst e; exact hbody l pre x W hi) hdone hstop
end Go.Proofs.Ytifffmfbipjilaa.Z
namespace Go.Proofs.Ytifffmfbipjilaa.Z
open Go Go.RowKit
set_option linter.unusedVariables false
set_option linter.unusedSimpArgs false
section
variable {P : Program} {ops : Array Oper} {Q : Exit → Act → World → Prop} {md : Region.Mode} {n l : Nat} {S : World → Prop}
/-- No operation is a 'defer' statement. -/
def noDefer (ops : Array Oper) : Bool := ops.all fun o => match o.op with
  | .defer _ => false
  | _ => true
theorem noDefer_spec (h : noDefer ops = true) {i : Nat} {o : Oper} (ho : ops[i]? = some o) : ∀ c, o.op ≠ .defer c := fun c e => by
  obtain ⟨hi, he⟩ := Array.getElem?_eq_some_iff.1 ho
  have := Array.all_eq_true.1 h i hi
  rw [he, e] at this
  cases this
/-- The fence of a round. -/
abbrev Rd (l : Nat) : Fence := Fence.wide.inRound l
theorem opRd {o : Oper} {a : Act} {w : World} {K : Act → World → Prop} (hd : ∀ c, o.op ≠ .defer c) : o.wpIn (Rd l) n P a w K Q ↔ o.uponIn (Rd l) n P a K Q ((execOp a.eval o).run P w) := by
  unfold Oper.wpIn
  rw [Fence.inRound_round, Oper.semAt_some l _ o hd]
  exact ⟨fun h => h.2, fun h => ⟨fun _ _ => trivial, h⟩⟩
theorem yields_Rd {i : Nat} {o : Oper} {v : Value} {a : Act} (hnd : noDefer ops = true) (hi : ops[i]? = some o) (hy : YieldsIf P ops S o v a) {K : Act → World → Prop} {w : World} (hS : S w) (h : K (a.put o.dst v) w) : wpOpIn (Rd l) n P ops Q i K a w := by
  unfold wpOpIn
  simp only [hi]
  rcases hy with ⟨hw, hv⟩ | ⟨hw, rfl⟩
  · rw [if_pos hw, opRd (noDefer_spec hnd hi), hv w hS]
    exact h
  · rw [if_neg (by rw [hw]; decide)]
    exact ⟨fun _ _ => trivial, h⟩
theorem put_Rd {j : Nat} {oi oj : Oper} {v : Value} (hnd : noDefer ops = true) (hj : ops[j]? = some oj) (hap : oi.apart ops oj = true) (hsi : ∀ cs b, oi.op ≠ .select cs b) (hsj : ∀ cs b, oj.op ≠ .select cs b)
    (hQ : ∀ c a w, Q (.panic c) (a.put oi.dst v) w → Q (.panic c) a w) {K : Act → World → Prop} {a : Act} {w : World} (hy : YieldsIf P ops S oi v a) (h : wpOpIn (Rd l) n P ops Q j K (a.put oi.dst v) w) :
    wpOpIn (Rd l) n P ops Q j (fun a' w' => YieldsIf P ops S oi v a' ∧ K (a'.put oi.dst v) w') a w := by
  obtain ⟨h1, h2, h3⟩ := Oper.apart_spec hap
  have hdj := noDefer_spec hnd hj
  have keep : ∀ (a : Act), YieldsIf P ops S oi v a → ∀ u, YieldsIf P ops S oi v (a.put oj.dst u) := fun a hy u => hy.of_same (execOp_put oi hsi a oj.dst u h3) (wanted_put oi a oj.dst u h3)
  have back : ∀ u w', K ((a.put oi.dst v).put oj.dst u) w' → YieldsIf P ops S oi v (a.put oj.dst u) ∧ K ((a.put oj.dst u).put oi.dst v) w' := fun u w' h => ⟨keep a hy u, by rw [← Act.put_comm a v u h2]; exact h⟩
  unfold wpOpIn at *
  simp only [hj] at *
  rw [wanted_put oj a oi.dst v h1] at h
  split
  · rename_i hw
    rw [if_pos hw, opRd hdj, execOp_put oj hsj a oi.dst v h1] at h
    rw [opRd hdj]
    generalize (execOp a.eval oj).run P w = r at *
    cases r with
    | ok x w' =>
      cases x <;> simp only [Oper.uponIn] at h ⊢
      case value u => exact back u _ h
      case skip => exact back _ _ h
      case defer d =>
        have hyd : YieldsIf P ops S oi v { a with defers := d :: a.defers } := hy.of_same rfl rfl
        refine ⟨keep _ hyd _, ?_⟩
        rw [← Act.put_comm _ v undef h2, ← Act.put_defers]
        exact h
      case enter f args =>
        refine ⟨h.1, CallsIn.mono h.2 fun e w'' he => ?_⟩
        cases e with
        | returned u => exact back u _ he
        | panicked c => exact hQ _ _ _ he
        | outgrown => exact he
      case row row args => exact ⟨h.1, RowsIn.mono h.2 fun u w'' he => back u _ he⟩
      case round l f tmps assign body =>
        refine ⟨h.1, RoundIn.mono h.2 fun e w'' he => ?_⟩
        cases e with
        | returned u => exact back u _ he
        | panicked c => exact hQ _ _ _ he
        | outgrown => exact he
    | halt x w' =>
      cases x <;> simp only [Oper.uponIn] at h ⊢
      case panic u => exact hQ _ _ _ h
  · rename_i hw
    rw [if_neg hw] at h
    exact ⟨fun _ _ => trivial, back _ _ h.2⟩
/-- Is a marked operation still to come? -/
def DueR (M : List Nat) (listed : Array Bool) : Prop := ∃ m ∈ M, listed.getD m true = false
theorem notDueR {M : List Nat} {listed : Array Bool} {X : Prop} (h : M.all (fun m => listed.getD m true) = true) : DueR M listed → X := fun ⟨m, hm, hl⟩ => by
  have := List.all_eq_true.1 h m hm
  rw [hl] at this
  cases this
theorem listed_no {j : Nat} {listed : Array Bool} (h : listed.getD j true = false) : listed.getD j false = false := by
  rcases Nat.lt_or_ge j listed.size with h' | h'
  · simpa [h'] using h
  · simp [h'] at h
/-- Whatever order is drawn; S holds behind each operation, while a marked one is still to come. -/
def wpHI (n l : Nat) (P : Program) (md : Region.Mode) (ops : Array Oper) (Q : Exit → Act → World → Prop) (S : World → Prop) (M : List Nat) : Nat → Array Bool → Act → World → Prop
  | 0, listed, a, w => Region.ready md ops listed = [] ∧ Q .normal a w
  | fuel + 1, listed, a, w => (Region.ready md ops listed = [] → Q .normal a w) ∧
    ∀ i ∈ Region.ready md ops listed, wpOpIn (Rd l) n P ops Q i (fun a' w' => (DueR M (listed.setIfInBounds i true) → S w') ∧ wpHI n l P md ops Q S M fuel (listed.setIfInBounds i true) a' w') a w
theorem any_of_HI {M : List Nat} : ∀ (fuel : Nat) (listed : Array Bool) (a : Act) (w : World), wpHI n l P md ops Q S M fuel listed a w → wpAnyIn (Rd l) n P md ops Q fuel listed a w
  | 0, _, _, _, h => h
  | fuel + 1, _, _, _, h => ⟨h.1, fun i hi => wpOpIn_mono (fun a' w' h' => any_of_HI fuel _ a' w' h'.2) (h.2 i hi)⟩
theorem HI_first {M : List Nat} (hnd : noDefer ops = true) {i m : Nat} {oi om : Oper} {v : Value} (hi : ops[i]? = some oi) (hsel : ∀ (j : Nat) (o : Oper) cs b, ops[j]? = some o → o.op ≠ .select cs b) (hQ : ∀ c a w, Q (.panic c) (a.put oi.dst v) w → Q (.panic c) a w)
    (hm : m ∈ M) (hom : ops[m]? = some om) (hedge : ∃ e ∈ om.after, Region.binds md e = true ∧ e.on = i) :
    ∀ (fuel : Nat) (listed : Array Bool) (a : Act) (w : World),
      (∀ j oj, ops[j]? = some oj → j ≠ i → listed.getD j true = false → (∀ e ∈ oj.after, Region.binds md e = true → e.on ≠ i) → oi.apart ops oj = true) →
      i ∈ Region.ready md ops listed → listed.getD m true = false → YieldsIf P ops S oi v a → S w →
      wpHI n l P md ops Q S M fuel (listed.setIfInBounds i true) (a.put oi.dst v) w → wpHI n l P md ops Q S M (fuel + 1) listed a w := by
  intro fuel
  induction fuel with
  | zero =>
    intro listed a w _ hr _ hy hS H
    refine ⟨fun h => (by rw [h] at hr; cases hr), fun j hj => ?_⟩
    by_cases hji : j = i
    · subst hji; exact yields_Rd hnd hi hy hS ⟨fun _ => hS, H⟩
    · have := ready_mono hj hji
      rw [H.1] at this
      cases this
  | succ fuel ih =>
    intro listed a w hfree hr hml hy hS H
    refine ⟨fun h => (by rw [h] at hr; cases hr), fun j hj => ?_⟩
    by_cases hji : j = i
    · subst hji; exact yields_Rd hnd hi hy hS ⟨fun _ => hS, H⟩
    · have h1 := H.2 j (ready_mono hj hji)
      obtain ⟨hjun, oj, hoj, hall⟩ := mem_ready.1 hj
      have hiun := (mem_ready.1 hr).1
      have hnot : ∀ e ∈ oj.after, Region.binds md e = true → e.on ≠ i := fun e he hb heq => by
        have h3 := hall e he hb
        rw [heq, listed_no hiun] at h3
        cases h3
      have hjm : j ≠ m := fun e => by
        subst e
        rw [hom] at hoj
        injection hoj with hoj
        subst hoj
        obtain ⟨e, he, hb, hon⟩ := hedge
        exact hnot e he hb hon
      have him : i ≠ m := fun e => by
        subst e
        rw [hi] at hom
        injection hom with hom
        subst hom
        obtain ⟨e, he, hb, hon⟩ := hedge
        obtain ⟨_, o, ho, hal⟩ := mem_ready.1 hr
        rw [hi] at ho
        injection ho with ho
        subst ho
        have h3 := hal e he hb
        rw [hon, listed_no hiun] at h3
        cases h3
      have hdue : DueR M ((listed.setIfInBounds i true).setIfInBounds j true) := ⟨m, hm, by rw [getD_set_ne true hjm, getD_set_ne true him]; exact hml⟩
      have h2 := put_Rd hnd hoj (hfree j oj hoj hji hjun hnot) (fun cs b => hsel i oi cs b hi) (fun cs b => hsel j oj cs b hoj) hQ hy h1
      refine wpOpIn_mono (fun a' w' h3 => ⟨fun _ => h3.2.1 hdue, ih (listed.setIfInBounds j true) a' w' (fun k ok hk hki hun hno => ?_) (ready_mono hr (Ne.symm hji)) (by rw [getD_set_ne true hjm]; exact hml) h3.1 (h3.2.1 hdue) ?_⟩) h2
      · refine hfree k ok hk hki ?_ hno
        by_cases hjk : j = k
        · subst hjk; exact hjun
        · rw [getD_set_ne true hjk] at hun; exact hun
      · rw [Array.setIfInBounds_comm _ _ hji]
        exact h3.2.2
/-- An operation that yields while S holds, and whose value a marked one wants, may be taken first. -/
theorem HI_take {M : List Nat} {i : Nat} (m : Nat) {oi om : Oper} {v : Value} {fuel : Nat} {listed : Array Bool} {a : Act} {w : World} (hnd : noDefer ops = true) (hi : ops[i]? = some oi) (hom : ops[m]? = some om)
    (hs : Region.noSelect ops = true) (hf : Region.free md ops listed i = true) (hr : (Region.ready md ops listed).contains i = true)
    (hm : M.contains m = true) (he : om.after.any (fun e => Region.binds md e && e.on == i) = true) (hml : listed.getD m true = false)
    (hQ : ∀ c a w, Q (.panic c) (a.put oi.dst v) w → Q (.panic c) a w) (hy : YieldsIf P ops S oi v a) (hS : S w)
    (h : wpHI n l P md ops Q S M fuel (listed.setIfInBounds i true) (a.put oi.dst v) w) : wpHI n l P md ops Q S M (fuel + 1) listed a w :=
  HI_first hnd hi (Region.noSelect_spec hs) hQ (by simpa using hm) hom (by
    obtain ⟨e, he, hb⟩ := Array.any_eq_true'.1 he
    simp only [Bool.and_eq_true, beq_iff_eq] at hb
    exact ⟨e, he, hb.1, hb.2⟩) fuel listed a w (Region.free_spec hi hf) (by simpa using hr) hml hy hS h
theorem HI_easy {M : List Nat} (hnd : noDefer ops = true) {i : Nat} {oi : Oper} {v : Value} (hi : ops[i]? = some oi) (hsel : ∀ (j : Nat) (o : Oper) cs b, ops[j]? = some o → o.op ≠ .select cs b) (hQ : ∀ c a w, Q (.panic c) (a.put oi.dst v) w → Q (.panic c) a w) (hM : ∀ m ∈ M, m ≠ i) :
    ∀ (fuel : Nat) (listed : Array Bool) (a : Act) (w : World),
      (∀ j oj, ops[j]? = some oj → j ≠ i → listed.getD j true = false → (∀ e ∈ oj.after, Region.binds md e = true → e.on ≠ i) → oi.apart ops oj = true) →
      i ∈ Region.ready md ops listed → YieldsIf P ops (fun _ => True) oi v a → (DueR M listed → S w) →
      wpHI n l P md ops Q S M fuel (listed.setIfInBounds i true) (a.put oi.dst v) w → wpHI n l P md ops Q S M (fuel + 1) listed a w := by
  have back : ∀ {listed : Array Bool} {j : Nat}, DueR M (listed.setIfInBounds j true) → DueR M listed := fun {listed j} ⟨m, hm, hl⟩ => by
    by_cases hjm : j = m
    · subst hjm
      refine ⟨j, hm, ?_⟩
      rcases Nat.lt_or_ge j listed.size with h' | h'
      · simp [h'] at hl
      · simp [h'] at hl
    · exact ⟨m, hm, by rw [getD_set_ne true hjm] at hl; exact hl⟩
  intro fuel
  induction fuel with
  | zero =>
    intro listed a w _ hr hy hS H
    refine ⟨fun h => (by rw [h] at hr; cases hr), fun j hj => ?_⟩
    by_cases hji : j = i
    · subst hji; exact yields_Rd hnd hi hy trivial ⟨fun hd => hS (back hd), H⟩
    · have := ready_mono hj hji
      rw [H.1] at this
      cases this
  | succ fuel ih =>
    intro listed a w hfree hr hy hS H
    refine ⟨fun h => (by rw [h] at hr; cases hr), fun j hj => ?_⟩
    by_cases hji : j = i
    · subst hji; exact yields_Rd hnd hi hy trivial ⟨fun hd => hS (back hd), H⟩
    · have h1 := H.2 j (ready_mono hj hji)
      obtain ⟨hjun, oj, hoj, hall⟩ := mem_ready.1 hj
      have hiun := (mem_ready.1 hr).1
      have hnot : ∀ e ∈ oj.after, Region.binds md e = true → e.on ≠ i := fun e he hb heq => by
        have h3 := hall e he hb
        rw [heq, listed_no hiun] at h3
        cases h3
      have up : DueR M (listed.setIfInBounds j true) → DueR M ((listed.setIfInBounds i true).setIfInBounds j true) := fun ⟨m, hm, hl⟩ => ⟨m, hm, by
        rw [Array.setIfInBounds_comm _ _ (Ne.symm hji), getD_set_ne true (Ne.symm (hM m hm))]
        exact hl⟩
      have h2 := put_Rd hnd hoj (hfree j oj hoj hji hjun hnot) (fun cs b => hsel i oi cs b hi) (fun cs b => hsel j oj cs b hoj) hQ hy h1
      refine wpOpIn_mono (fun a' w' h3 => ⟨fun hd => h3.2.1 (up hd), ih (listed.setIfInBounds j true) a' w' (fun k ok hk hki hun hno => ?_) (ready_mono hr (Ne.symm hji)) h3.1 (fun hd => h3.2.1 (up hd)) ?_⟩) h2
      · refine hfree k ok hk hki ?_ hno
        by_cases hjk : j = k
        · subst hjk; exact hjun
        · rw [getD_set_ne true hjk] at hun; exact hun
      · rw [Array.setIfInBounds_comm _ _ hji]
        exact h3.2.2
/-- What yields in whatever world. -/
theorem HI_take0 {M : List Nat} {i : Nat} {oi : Oper} {v : Value} {fuel : Nat} {listed : Array Bool} {a : Act} {w : World} (hnd : noDefer ops = true) (hi : ops[i]? = some oi)
    (hs : Region.noSelect ops = true) (hf : Region.free md ops listed i = true) (hr : (Region.ready md ops listed).contains i = true) (hm : M.contains i = false)
    (hQ : ∀ c a w, Q (.panic c) (a.put oi.dst v) w → Q (.panic c) a w) (hy : YieldsIf P ops (fun _ => True) oi v a) (hS : DueR M listed → S w)
    (h : wpHI n l P md ops Q S M fuel (listed.setIfInBounds i true) (a.put oi.dst v) w) : wpHI n l P md ops Q S M (fuel + 1) listed a w :=
  HI_easy hnd hi (Region.noSelect_spec hs) hQ (fun m hmm e => by rw [e] at hmm; simp at hm; exact hm hmm) fuel listed a w (Region.free_spec hi hf) (by simpa using hr) hy hS h
theorem HI_done {M : List Nat} {listed : Array Bool} {a : Act} {w : World} (hr : Region.ready md ops listed = []) (h : Q .normal a w) : ∀ fuel, wpHI n l P md ops Q S M fuel listed a w
  | 0 => ⟨hr, h⟩
  | _ + 1 => ⟨fun _ => h, by rw [hr]; simp⟩
/-- Each of these comes up next. -/
def AllHI (n l : Nat) (P : Program) (md : Region.Mode) (ops : Array Oper) (Q : Exit → Act → World → Prop) (S : World → Prop) (M : List Nat) (fuel : Nat) (listed : Array Bool) (a : Act) (w : World) (rs : List Nat) : Prop :=
  ∀ i ∈ rs, wpOpIn (Rd l) n P ops Q i (fun a' w' => (DueR M (listed.setIfInBounds i true) → S w') ∧ wpHI n l P md ops Q S M fuel (listed.setIfInBounds i true) a' w') a w
theorem AllHI.nil {M : List Nat} {fuel : Nat} {listed : Array Bool} {a : Act} {w : World} : AllHI n l P md ops Q S M fuel listed a w [] := fun _ h => by cases h
theorem AllHI.cons {M : List Nat} {fuel : Nat} {listed : Array Bool} {a : Act} {w : World} {i : Nat} {o : Oper} {rs : List Nat} (hnd : noDefer ops = true) (ho : ops[i]? = some o) (hw : Region.wanted o (yielded ops a.tmps) = true)
    (h : ∀ K' : Act → World → Prop, Shut (∀ a w, (DueR M (listed.setIfInBounds i true) → S w) → wpHI n l P md ops Q S M fuel (listed.setIfInBounds i true) a w → K' a w) → Oper.wpIn (Rd l) n P o a w K' Q)
    (hs : AllHI n l P md ops Q S M fuel listed a w rs) : AllHI n l P md ops Q S M fuel listed a w (i :: rs) := fun j hj => by
  rcases List.mem_cons.1 hj with rfl | hj
  · refine wpOpIn_step ho (fun K' hK => ?_)
    rw [if_pos hw]
    exact h K' (fun a w hS hW => hK a w ⟨hS, hW⟩)
  · exact hs j hj
theorem HI_ready {M : List Nat} {rs : List Nat} {fuel : Nat} {listed : Array Bool} {a : Act} {w : World} (hr : Region.ready md ops listed = rs) (hne : rs ≠ [])
    (h : AllHI n l P md ops Q S M fuel listed a w rs) : wpHI n l P md ops Q S M (fuel + 1) listed a w := ⟨fun h0 => absurd (hr ▸ h0) hne, hr ▸ h⟩
theorem region_HI {id : Nat} {a : Act} {w : World} (S : World → Prop) (M : List Nat) (hm : P.follows .mixedOrders = true) (h : wpHI n l P .any ops Q S M ops.size (Array.replicate ops.size false) a w.drew) : (Code.region id ops true).wpIn (Rd l) n P Q a w :=
  wpIn_region_any hm (any_of_HI _ _ a _ h)
end
end Go.Proofs.Ytifffmfbipjilaa.Z
namespace Go.Proofs.Ytifffmfbipjilaa.Z
open Go.RowKit Go.Shelf Go.Proofs.YtifffmfbipjilaaW.PrintWords
attribute [local go_sem] Oper.semAt_some
set_option linter.unusedVariables false
set_option linter.unusedSimpArgs false
/-- Every block of cells lies as it lay, but for one. -/
structure KC (nx : Nat) (W W' : World) : Prop where
  size : W.heap.size ≤ W'.heap.size
  cells : ∀ (b : Nat) (o : Obj), W.heap[b]? = some o → o.isCells = true → b ≠ nx → W'.heap[b]? = some o
theorem KC.refl (nx : Nat) (W : World) : KC nx W W := ⟨Nat.le_refl _, fun _ _ h _ _ => h⟩
theorem KC.trans {nx : Nat} {A B C : World} (h : KC nx A B) (k : KC nx B C) : KC nx A C := ⟨Nat.le_trans h.size k.size, fun b o h0 hc hn => k.cells b o (h.cells b o h0 hc hn) hc hn⟩
theorem KC.of_below {nx : Nat} {W W' : World} (h : Below W.heap.size W W') : KC nx W W' := ⟨h.size, fun b o h0 _ _ => (h.block b (Array.getElem?_eq_some_iff.1 h0).1).trans h0⟩
theorem KC.set {nx : Nat} (W : World) (v : Value) : KC nx W (W.setCell ⟨nx, 0, none⟩ v) := ⟨by simp [World.setCell], fun b o h0 _ hn => (Below.heap_setCell W _ v b hn).trans h0⟩
theorem Blk.kc {nx : Nat} {w w1 : World} {b T : Nat} {l : List Value} (h : Blk w b T l) (k : KC nx w w1) (hb : b ≠ nx) : Blk w1 b T l := k.cells b _ h rfl hb
theorem DqAt.kc {nx : Nat} {w W : World} {g br bl : Nat} {d : Dq} (h : DqAt w g br bl d) (k : KC nx w W) (h1 : g ≠ nx) (h2 : br ≠ nx) (h3 : bl ≠ nx) : DqAt W g br bl d := ⟨h.head.kc k h1, h.rows.kc k h2, h.links.kc k h3, h.ne1, h.ne2, h.ne3⟩
theorem kc_t {nx : Nat} {A B C : World} (h : KC nx A B) (k : KC nx B C) : KC nx A C := h.trans k
theorem kc_b {nx : Nat} {w : World} (W : World) (l : Nat) (o o' : Obj) (_ : w.heap.size ≤ l) (h : W.heap[l]? = some o) (hc : o.isCells = false) (_ : o.isWalk = false) : KC nx W (W.putObj l o') :=
  ⟨by simp, fun b p hp hpc _ => (World.putObj_heap_other (fun e => by subst e; rw [h] at hp; injection hp with hp; subst hp; rw [hc] at hpc; cases hpc)).trans hp⟩
theorem ownFrom_kc {β : Type} {nx B : Nat} {w₀ : World} : OwnFrom B (fun (_ : β) W => KC nx w₀ W) := fun s X Y row hs hg hr =>
  ⟨Nat.le_trans hs.size hg.size, fun b o h0 hc hn => by
    have h1 := hs.cells b o h0 hc hn
    refine (hg.block b (Array.getElem?_eq_some_iff.1 h1).1 (fun e => ?_)).trans h1
    obtain ⟨o', ho', hc'⟩ := (hr b e.symm).2
    rw [h1] at ho'
    injection ho' with ho'
    subst ho'
    rw [hc] at hc'
    cases hc'⟩
/-- As KC, and whatever is no cells and lies at or beyond B lies as it lay. -/
def KK (B nx : Nat) (W W' : World) : Prop := KC nx W W' ∧ KeepsFrom B W W'
theorem kk_t {B nx : Nat} {X Y Z : World} (h : KK B nx X Y) (k : KK B nx Y Z) : KK B nx X Z := ⟨h.1.trans k.1, h.2.trans k.2⟩
theorem KK.refl (B nx : Nat) (W : World) : KK B nx W W := ⟨KC.refl _ _, KeepsFrom.refl _ _⟩
theorem KK.of_below {B nx : Nat} {W W' : World} (h : Below W.heap.size W W') : KK B nx W W' := ⟨KC.of_below h, ⟨h.size, fun k o _ h0 _ => (h.block k (Array.getElem?_eq_some_iff.1 h0).1).trans h0⟩⟩
theorem KK.set {B nx : Nat} (W : World) (v : Value) : KK B nx W (W.setCell ⟨nx, 0, none⟩ v) := ⟨KC.set W v, (KeepsOthers.setCell W ⟨nx, 0, none⟩ v).from _⟩
theorem kk_b {nx : Nat} {w : World} (W : World) (o o' : Obj) (h : W.heap[w.heap.size + 1]? = some o) (hc : o.isCells = false) (hw : o.isWalk = false) : KK (w.heap.size + 2) nx W (W.putObj (w.heap.size + 1) o') :=
  ⟨kc_b (w := w) W _ o o' (by omega) h hc hw, ⟨by simp, fun k p hk hp _ => (World.putObj_heap_other (by omega)).trans hp⟩⟩
/-- The blocks for rounds' deferred calls that a frame still has to shut. -/
def Marks (B : Nat) : List Deferred → World → Prop
  | [], _ => True
  | d :: ds, W => (∃ D, B ≤ D ∧ d = { target := .collected D, args := #[] } ∧ W.heap[D]? = some (.deferred (some [])) ∧ ∀ e ∈ ds, e.target ≠ .collected D) ∧ Marks B ds W
theorem Marks.imp {B : Nat} {W V : World} (hk : ∀ D, B ≤ D → W.heap[D]? = some (.deferred (some [])) → V.heap[D]? = some (.deferred (some []))) : ∀ {ds : List Deferred}, Marks B ds W → Marks B ds V
  | [], _ => trivial
  | _ :: _, ⟨⟨D, h1, h2, h3, h4⟩, h5⟩ => ⟨⟨D, h1, h2, hk D h1 h3, h4⟩, h5.imp hk⟩
theorem Marks.keep {B : Nat} {W V : World} (k : KeepsFrom B W V) {ds : List Deferred} (h : Marks B ds W) : Marks B ds V := h.imp fun D hD h0 => k.same D _ hD h0 rfl
theorem Marks.lt {B : Nat} {W : World} : ∀ {ds : List Deferred}, Marks B ds W → ∀ d ∈ ds, ∃ D, D < W.heap.size ∧ d.target = .collected D
  | _ :: _, ⟨⟨D, _, h2, h3, _⟩, h5⟩, e, he => by
    rcases List.mem_cons.1 he with rfl | he
    · exact ⟨D, (Array.getElem?_eq_some_iff.1 h3).1, by rw [h2]⟩
    · exact h5.lt e he
/-- A turn of a block that lies beyond the world in which the marks stood. -/
theorem Marks.turn {B : Nat} {W0 X Y : World} {row : Option Nat} (hg : X.grownBy Y row) (hr : ∀ r, row = some r → W0.heap.size ≤ r) : ∀ {ds : List Deferred}, Marks B ds W0 → Marks B ds X → Marks B ds Y
  | [], _, _ => trivial
  | d :: ds, ⟨⟨D', _, g2, g3, _⟩, g5⟩, ⟨⟨D, h1, h2, h3, h4⟩, h5⟩ => by
    have hlt : D < W0.heap.size := by
      rw [h2] at g2
      injection g2 with g2 _
      injection g2 with g2
      rw [g2]; exact (Array.getElem?_eq_some_iff.1 g3).1
    exact ⟨⟨D, h1, h2, (hg.block D (Array.getElem?_eq_some_iff.1 h3).1 (fun e => by have := hr D e.symm; omega)).trans h3, h4⟩, Marks.turn hg hr g5 h5⟩
theorem Marks.own {B : Nat} {W0 : World} {ds : List Deferred} (h0 : Marks B ds W0) {β : Type} : OwnFrom W0.heap.size (fun (_ : β) W => Marks B ds W) := fun s X Y row hs hg hr => Marks.turn hg (fun r e => (hr r e).1) h0 hs
/-- A frame shuts its blocks on its way out. -/
theorem marks_out {P : Program} {F : Fence} {n B : Nat} {fn : Func} {tmps : Array Value} {R : Ending → World → Prop} (J : World → Prop)
    (hJ : ∀ (W : World) (D : Nat), B ≤ D → W.heap[D]? = some (.deferred (some [])) → J W → J (W.putObj D (.deferred none))) (hR : ∀ W, J W → LeavesIn F n P fn tmps R [] .returning W) :
    ∀ (ds : List Deferred) (W : World), Marks B ds W → J W → LeavesInM F n P fn tmps R ds .returning W
  | [], W, _, h => hR W h
  | d :: ds, W, ⟨⟨D, h1, h2, h3, h4⟩, h5⟩, h => by
    subst h2
    refine ⟨by simp, .inl ⟨D, _, rfl, run_takeDeferred h3, marks_out J hJ hR ds _ ?_ (hJ W D h1 h3 h)⟩⟩
    clear hJ hR h h3
    induction ds with
    | nil => exact trivial
    | cons e ds ih =>
      obtain ⟨⟨E, g1, g2, g3, g4⟩, g5⟩ := h5
      have hED : E ≠ D := fun e' => h4 e List.mem_cons_self (by rw [g2, e'])
      exact ⟨⟨E, g1, g2, (World.putObj_heap_other hED).trans g3, g4⟩, ih (fun x hx => h4 x (List.mem_cons_of_mem _ hx)) g5⟩
set_option maxHeartbeats 8000000 in
set_option maxRecDepth 100000 in
/-- The iterator over a row: each member once, from its end on. -/
theorem all1_kc {p : Nat → Prop} (n : Nat) (hn : 2 ≤ n) (l b1 b2 b3 nx : Nat) (g br bl : Nat) (d : Dq) (row : Int) (back : Bool) (lst : List {x : Nat // p x}) (J Jx : List {x : Nat // p x} → World → Prop)
    (hY : ∀ (pre : List {x : Nat // p x}) (x : {x : Nat // p x}) (W : World), J pre W → pre.length < lst.length → YieldAt Fence.wide (n - 1) Try.prog l #[.int .i64 (x.1 : Int)] W fun e W' =>
      (e = .returned (.bool true) ∧ J (pre ++ [x]) W' ∧ KC nx W W') ∨ (e = .returned (.bool false) ∧ Jx (pre ++ [x]) W'))
    (W : World) (hq : Seq d row back (lst.map (·.1))) (hd : DqAt W g br bl d) (hB1 : Blk W b1 72 [.pointer (some ⟨g, 0, none⟩)]) (hB2 : Blk W b2 3 [.int .i64 row]) (hB3 : Blk W b3 4 [.bool back])
    (k1 : b1 ≠ nx) (k2 : b2 ≠ nx) (k3 : b3 ≠ nx) (k4 : g ≠ nx) (k5 : br ≠ nx) (k6 : bl ≠ nx) (h0 : J [] W) :
    CallsIn Fence.wide n Try.prog 67 #[.func (.yield l) #[] #[], .pointer (some ⟨b1, 0, none⟩), .pointer (some ⟨b2, 0, none⟩), .pointer (some ⟨b3, 0, none⟩)] W fun e W' => (∃ v, e = .returned v) ∧
      ((∃ ys, ys = lst ∧ J ys W') ∨ (∃ pre, pre <+: lst ∧ Jx pre W')) := by
  obtain ⟨lsv, hlv⟩ : ∃ lsv, lsv = lst.map (·.1) := ⟨_, rfl⟩
  rw [← hlv] at hq
  have hlen : lsv.length = lst.length := by rw [hlv, List.length_map]
  have HLV := Aside0.mk hlv
  clear hlv
  have c1 := hB1.cell 0 rfl
  have c2 := hB2.cell 0 rfl
  have c3 := hB3.cell 0 rfl
  have HD := Aside0.mk hd
  have HQ := Aside0.mk hq
  have HK := Aside0.mk (And.intro k1 (And.intro k2 k3))
  clear hd hq
  refine callsIn_of_wp Try.func67 rfl trivial ?_ rfl
  simp only [Try.ntmps67, List.size_toArray, List.length_cons, List.length_nil, Nat.reduceAdd, Nat.reduceSub, Array.replicate_succ, Array.replicate_zero, List.push_toArray, List.append_toArray, List.nil_append, List.cons_append]
  gi_wp2_with (fail)
  refine ⟨trivial, (fun h => by cases h), ?_⟩
  refine (callsIn_wide.2 (end_any row back g br bl d _ HD.out)).mono ?_
  rintro e w' ⟨he, rfl⟩
  rw [HQ.out.start] at he
  by_cases hne : lsv = []
  · rw [if_pos hne] at he
    subst he
    gi_wp2
    gi_loopw [5] (fun p wr => p = .int .i64 0 ∧ wr = W) (fun _ _ => 0)
    case atStart => exact ⟨rfl, rfl⟩
    case round =>
      obtain ⟨rfl, rfl⟩ := hrel
      gi_wp2
      refine ⟨(fun _ h => (by cases h)), ?_⟩
      gi_wp2
      go_end0
      exact ⟨⟨_, rfl⟩, .inl ⟨[], (List.map_eq_nil_iff.1 (HLV.out.symm.trans hne)).symm, h0⟩⟩
  · rw [if_neg hne] at he
    subst he
    have HNE := Aside0.mk hne
    clear hne
    gi_wp2_with (fail)
    gi_loopw [5] (fun p wr => ∃ k : Nat, k ≤ lsv.length ∧ p = .int .i64 (nth lsv k) ∧ J (lst.take k) wr ∧ KC nx W wr) (fun p _ => left lsv p)
    case atStart => exact ⟨0, Nat.zero_le _, rfl, h0, KC.refl _ _⟩
    case round =>
      obtain ⟨k, hk, rfl, hJ1, hb1⟩ := hrel
      by_cases hlt : k < lsv.length
      · have hx : lsv[k]? = some lsv[k] := List.getElem?_eq_getElem hlt
        obtain ⟨x, hX⟩ : ∃ x, lsv[k] = x := ⟨_, rfl⟩
        rw [hX] at hx
        obtain ⟨X, hX1, hX2⟩ : ∃ X, lst[k]? = some X ∧ X.1 = x := by
          rw [HLV.out, List.getElem?_map] at hx
          exact Option.map_eq_some_iff.1 hx
        have hnx : nth lsv k = (x : Int) := nth_some hx
        have hM : left lsv (.int .i64 (nth lsv (k + 1))) < left lsv (.int .i64 (x : Int)) := hnx ▸ left_less HQ.out.nd hx
        obtain ⟨lk, hlk, hnext⟩ := HQ.out.step k x hx
        obtain ⟨fn, tmps, assign, body, hy, hR⟩ := hY (lst.take k) X wr hJ1 (by rw [List.length_take]; omega)
        rw [hX2] at hy
        have htk : lst.take k ++ [X] = lst.take (k + 1) := by rw [List.take_add_one, hX1]; rfl
        rw [htk] at hR
        rw [hnx]
        clear hnx hX1 hX2
        have HL := Aside0.mk hlk
        have HN := Aside0.mk hnext
        have HX := Aside0.mk hx
        have HT := Aside0.mk htk
        have HHT := Aside0.mk hX
        have xge : (0 : Int) ≤ (x : Int) := by omega
        have xne : (x : Int) ≠ -1 := by omega
        clear hlk hnext hx htk hX
        gi_wp2_with (fail)
        refine ⟨(fun h => by cases h), hR.mono ?_⟩
        rintro e W3 (⟨rfl, hJ3, hk3⟩ | ⟨rfl, hJx3⟩)
        · have hb3 := hb1.trans hk3
          have r3 := (hB3.kc hb3 HK.out.2.2).cell 0 rfl
          have r1 := (hB1.kc hb3 HK.out.1).cell 0 rfl
          have hd3 := HD.out.kc hb3 k4 k5 k6
          obtain ⟨hg0, hg1, _, fz⟩ := hd3.heads
          obtain ⟨l0, l1, l2⟩ := hd3.link HL.out
          have hxl : x < d.links.length := (List.getElem?_eq_some_iff.1 HL.out).1
          have HB := Aside0.mk hb3
          clear hb3 hb1 hk3 hd3
          cases back with
          | false =>
            rw [show lk.next = nth lsv (k + 1) from HN.out] at l2
            gi_wp2_with (fail)
            go_roundw
            case rel => exact ⟨k + 1, hlt, by push_cast; rfl, hJ3, HB.out⟩
            case measure => exact hM
          | true =>
            rw [show lk.prev = nth lsv (k + 1) from HN.out] at l1
            gi_wp2_with (fail)
            go_roundw
            case rel => exact ⟨k + 1, hlt, by push_cast; rfl, hJ3, HB.out⟩
            case measure => exact hM
        · gi_wp2_with (fail)
          go_end0
          exact ⟨⟨_, rfl⟩, .inr ⟨lst.take (k + 1), List.take_prefix _ _, hJx3⟩⟩
      · have he : nth lsv k = -1 := nth_none (by omega)
        rw [he]
        gi_wp2_with (fail)
        refine ⟨(fun _ h => (by cases h)), ?_⟩
        gi_wp2_with (fail)
        go_end0
        exact ⟨⟨_, rfl⟩, .inl ⟨lst.take k, List.take_of_length_le (by omega), hJ1⟩⟩
theorem all_kc {p : Nat → Prop} (n : Nat) (hn : 2 ≤ n) (nx b1 b2 b3 g br bl : Nat) (d : Dq) (row : Int) (back : Bool) (lst : List {x : Nat // p x}) (w : World) (hq : Seq d row back (lst.map (·.1))) (hd : DqAt w g br bl d)
    (hB1 : Blk w b1 72 [.pointer (some ⟨g, 0, none⟩)]) (hB2 : Blk w b2 3 [.int .i64 row]) (hB3 : Blk w b3 4 [.bool back]) (k1 : b1 ≠ nx) (k2 : b2 ≠ nx) (k3 : b3 ≠ nx) (k4 : g ≠ nx) (k5 : br ≠ nx) (k6 : bl ≠ nx) :
    SeqStopsK Fence.wide n Try.prog 67 #[.pointer (some ⟨b1, 0, none⟩), .pointer (some ⟨b2, 0, none⟩), .pointer (some ⟨b3, 0, none⟩)] (fun x : {x : Nat // p x} => #[.int .i64 (x.1 : Int)]) (KC nx) (fun ys => ys = lst) (fun pre => pre <+: lst) lst.length w :=
  fun l J Jx W hW _ _ hY h0 => all1_kc n hn l b1 b2 b3 nx g br bl d row back lst J Jx hY W hq (hd.below hW) (hB1.below hW) (hB2.below hW) (hB3.below hW) k1 k2 k3 k4 k5 k6 h0
theorem all_any_lo (pt : Option Addr) (row : Int) (back : Bool) (w : World) :
    Calls Try.prog 54 #[.pointer pt, .int .i64 row, .bool back] w fun e w' => ∃ b1 b2 b3, e = .returned (.func (.func 67) #[] #[.pointer (some ⟨b1, 0, none⟩), .pointer (some ⟨b2, 0, none⟩), .pointer (some ⟨b3, 0, none⟩)]) ∧
      Below w.heap.size w w' ∧ (Blk w' b1 72 [.pointer pt] ∧ Blk w' b2 3 [.int .i64 row] ∧ Blk w' b3 4 [.bool back]) ∧ w.heap.size ≤ b1 ∧ w.heap.size ≤ b2 ∧ w.heap.size ≤ b3 := by
  go_enter Try.func54, Try.ntmps54
  go_wp2
  go_ret
  have hb : Below w.heap.size w (((w.alloc (.cells #[.pointer pt] 72)).alloc (.cells #[.int .i64 row] 3)).alloc (.cells #[.bool back] 4)) :=
    (((Below.refl _ w).alloc (Nat.le_refl _) _).alloc (by simp) _).alloc (by simp; omega) _
  have e1 := Blk.new w 72 [.pointer pt]
  have e2 := Blk.new (w.alloc (.cells #[.pointer pt] 72)) 3 [.int .i64 row]
  have e3 := Blk.new ((w.alloc (.cells #[.pointer pt] 72)).alloc (.cells #[.int .i64 row] 3)) 4 [.bool back]
  simp only [World.size_alloc] at e2 e3
  exact ⟨_, _, _, rfl, hb, ⟨(e1.alloc _).alloc _, e2.alloc _, e3⟩, Nat.le_refl _, by omega, by omega⟩
theorem tall_new (pt : Option Addr) (w : World) : Calls Try.prog 25 #[.pointer pt] w fun e w' => ∃ b1, e = .returned (.func (.func 53) #[] #[.pointer (some ⟨b1, 0, none⟩)]) ∧ Below w.heap.size w w' ∧ Blk w' b1 24 [.pointer pt] ∧ w.heap.size ≤ b1 := by
  go_enter Try.func25, Try.ntmps25
  go_wp2
  go_ret
  exact ⟨_, rfl, (Below.refl _ w).alloc (Nat.le_refl _) _, Blk.new w 24 [.pointer pt], Nat.le_refl _⟩
end Go.Proofs.Ytifffmfbipjilaa.Z
namespace Go.Proofs.Ytifffmfbipjilaa.Z
open Go.RowKit Go.Shelf Go.Proofs.YtifffmfbipjilaaW.PrintWords Go.Proofs.YtifffmfbipjilaaW.PrintLast Go.Proofs.YtifffmfbipjilaaW.PrintMore
attribute [local go_sem] Oper.semAt_some max2_int min2_int max_two min_two max_three min_three max_four min_four
set_option linter.unusedVariables false
set_option linter.unusedSimpArgs false
open H (En)
/-- What All reads. -/
structure TV (w : World) (a : TA) (n m : Nat) (s : Slb) (d : Dq) (L : List (List Nat)) (hs : List Int) : Prop where
  head : Blk w a.gq 82 [.pointer (some ⟨a.g, 0, none⟩), .pointer (some ⟨a.dg, 0, none⟩), .pointer (some ⟨a.hg, 0, none⟩), .slice (some ⟨a.bh, 0, none⟩) m m, .int .i64 n]
  sl : SlabAt w a.g a.gc s
  dq : DqAt w a.dg a.br a.bl d
  hd : Blk w a.bh 29 (hs.map (Value.int .u64))
/-- None of the queue's blocks that All reads is block nx. -/
def TA.no (a : TA) (nx : Nat) : Prop := a.gq ≠ nx ∧ a.g ≠ nx ∧ a.gc ≠ nx ∧ a.dg ≠ nx ∧ a.br ≠ nx ∧ a.bl ≠ nx ∧ a.bh ≠ nx
section
variable {w0 w W : World} {a : TA} {n m N nx : Nat} {s : Slb} {ch : List Nat} {d : Dq} {L : List (List Nat)} {S : List En} {hs : List Int}
theorem TV.kc (h : TV w a n m s d L hs) (k : KC nx w W) (hn : a.no nx) : TV W a n m s d L hs := by
  obtain ⟨h1, h2, h3, h4, h5, h6, h7⟩ := hn
  exact ⟨h.head.kc k h1, ⟨h.sl.head.kc k h2, h.sl.body.kc k h3, h.sl.ne⟩, h.dq.kc k h4 h5 h6, h.hd.kc k h7⟩
theorem TV.below (h : TV w a n m s d L hs) (hb : Below w.heap.size w W) : TV W a n m s d L hs := ⟨h.head.below hb, h.sl.kp (Kp.of_below (S := []) hb) (by simp) (by simp), h.dq.below hb, h.hd.below hb⟩
theorem TQ.view (h : TQ w0 w a n m s ch N L S hs) : ∃ d, TV w a n m s d L hs ∧ DR d L := by
  obtain ⟨d, h1, h2, h3⟩ := h.dq
  exact ⟨d, ⟨h.head, h.sl, h1, h.hd⟩, h2⟩
theorem Blk.far5 {W : World} {b T g : Nat} {l : List Value} (h : Blk W b T l) (hg : b ≠ g) (v0 v1 v2 v3 v4 : Value) : Blk (((((W.setCell ⟨g, 0, none⟩ v0).setCell ⟨g, 1, none⟩ v1).setCell ⟨g, 2, none⟩ v2).setCell ⟨g, 3, none⟩ v3).setCell ⟨g, 4, none⟩ v4) b T l :=
  ((((h.far (p := ⟨g, 0, none⟩) hg v0).far (p := ⟨g, 1, none⟩) hg v1).far (p := ⟨g, 2, none⟩) hg v2).far (p := ⟨g, 3, none⟩) hg v3).far (p := ⟨g, 4, none⟩) hg v4
theorem round_any {m m' l l' : Nat} {P : Program} {f : FuncId} {tmps : Array Value} {asg body : Code} {w : World} {R : Ending → World → Prop} (h : RoundIn Fence.wide m P l f tmps asg body w R) : RoundIn (Rd l') m' P l f tmps asg body w R := ⟨trivial, fun c cs _ => h.2 c cs (room_wide _)⟩
theorem flat_split {α : Type} {R : List (List α)} {r : Nat} {y : List α} (h : R[r]? = some y) : R.flatten = (R.take r).flatten ++ y ++ (R.drop (r + 1)).flatten ∧ (R.take (r + 1)).flatten = (R.take r).flatten ++ y := by
  obtain ⟨hr, he⟩ := List.getElem?_eq_some_iff.1 h
  constructor
  · have : R = R.take r ++ y :: R.drop (r + 1) := by rw [← he, ← List.drop_eq_getElem_cons hr, List.take_append_drop]
    have h2 := congrArg List.flatten this
    rw [List.flatten_append, List.flatten_cons] at h2
    rw [List.append_assoc]
    exact h2
  · rw [List.take_add_one, h, List.flatten_append]
    simp
theorem grown_of_below {w w' : World} (h : Below w.heap.size w w') : w.grownBy w' none := ⟨h.os, h.tape, h.output, h.size, fun k hk _ => h.block k hk⟩
theorem own_below {β : Type} {B : Nat} {I : β → World → Prop} (h : OwnFrom B I) {s : β} {W W' : World} (hs : I s W) (hb : Below W.heap.size W W') : I s W' := h s W W' none hs (grown_of_below hb) (fun r e => by cases e)
theorem itm_enc {i : Nat} {c : Cel} (h : s.cells[i]? = some c) : (itm s i).1 = hof i c ∧ (itm s i).2 = c.q := by rw [itm_at h]; exact ⟨rfl, rfl⟩
set_option maxHeartbeats 8000000 in
set_option maxRecDepth 100000 in
theorem tall_seq (k : Nat) (hk : 6 ≤ k) (B0 nx b1 : Nat) (w1 : World) (h : TQ w0 w1 a n m s ch N L S hs) (hN : N < 4294967295) (hb1 : Blk w1 b1 24 [.pointer (some ⟨a.gq, 0, none⟩)]) (hne : a.no nx) (hn1 : b1 ≠ nx) (hnx : nx < w1.heap.size) :
    SeqO Fence.wide k Try.prog 53 #[.pointer (some ⟨b1, 0, none⟩)] (fun x : It => #[.int .u64 x.1, x.2.val]) (KK B0 nx) (fun ys => ys = (vw s L).flatten) (fun pre => pre <+: (vw s L).flatten) (vw s L).flatten.length B0 w1 := by
  intro l J Jx W hW hB0 hJ hJx hY h0
  have HW := Aside0.mk h.wf
  have HT := Aside0.mk h.tw
  obtain ⟨d, hv, hdr⟩ := h.view
  have hv := hv.below hW
  have hb1 := hb1.below hW
  have hnW : nx < W.heap.size := Nat.lt_of_lt_of_le hnx hW.size
  have h1 : 1 ≤ k := by omega
  have hn8 := h.n8
  have hm1 := h.m1
  have hby := Blk.new W 102 [.func (.yield l) #[] #[]]
  have hv2 := hv.below (below_alloc (Below.refl _ W) (.cells #[.func (.yield l) #[] #[]] 102))
  have hb2 := hb1.below (below_alloc (Below.refl _ W) (.cells #[.func (.yield l) #[] #[]] 102))
  have h02 := hJ.alloc (.cells #[.func (.yield l) #[] #[]] 102) h0
  have hB : W.heap.size ≤ (W.alloc (.cells #[.func (.yield l) #[] #[]] 102)).heap.size := by rw [World.size_alloc]; omega
  obtain ⟨gy, hgy⟩ : ∃ gy, gy = W.heap.size := ⟨_, rfl⟩
  rw [← hgy] at hby
  have hgn : gy ≠ nx := by omega
  have HGY := Aside0.mk hgy
  clear hgy
  have hby : Blk (W.alloc (.cells #[.func (.yield l) #[] #[]] 102)) gy 102 [.func (.yield l) #[] #[]] := hby
  have c1 := hb2.cell 0 rfl
  have c4 := hv2.head.cell 4 rfl
  have HD := Aside0.mk hdr
  have H2 := Aside0.mk (And.intro hv2 (And.intro hb2 (And.intro hby h02)))
  clear h hv hb1 hW hby hv2 hb2 h02 hdr h0 hnx
  refine callsIn_of_wp_marks Try.func53 rfl trivial ?_ rfl
  simp only [Try.ntmps53, List.size_toArray, List.length_cons, List.length_nil, Nat.reduceAdd, Nat.reduceSub, Array.replicate_succ, Array.replicate_zero, List.push_toArray, List.append_toArray, List.nil_append, List.cons_append]
  gi_wp2_with (fail)
  rw [← HGY.out]
  generalize (W.alloc (.cells #[.func (.yield l) #[] #[]] 102)) = W2 at *
  clear c1 c4
  refine wpIn_loop (fun a' wr => ∃ (r : Nat) (Ds : List Deferred) (u3 u14 u15 u16 u17 u18 u19 u20 u21 u49 : Value), a' = { tmps := #[.func (.yield l) #[] #[], .pointer (some ⟨b1, 0, none⟩), .pointer (some ⟨gy, 0, none⟩), u3, undef, undef, undef, .pointer (some ⟨a.gq, 0, none⟩), .bool false, .pointer (some ⟨a.gq, 0, none⟩), .pointer (some ⟨a.gq, 0, none⟩), .pointer (some ⟨a.gq, 4, none⟩), .int .i64 n, .int .i64 r, u14, u15, u16, u17, u18, u19, u20, u21, undef, undef, undef, undef, undef, undef, undef, undef, undef, undef, undef, undef, undef, undef, undef, undef, undef, undef, undef, undef, undef, undef, undef, undef, undef, undef, undef, u49], defers := Ds } ∧ r ≤ n ∧ J ((vw s L).take r).flatten wr ∧ KC nx W2 wr ∧ Marks W.heap.size Ds wr) (fun a' _ => n - (intOf (a'.tmps.getD 13 undef)).toNat) ?start ?round
  case start => exact ⟨0, [], _, _, _, _, _, _, _, _, _, _, rfl, Nat.zero_le _, H2.out.2.2.2, KC.refl _ _, trivial⟩
  case round =>
    rintro a' wr ⟨r, Ds, u3, u14, u15, u16, u17, u18, u19, u20, u21, u49, rfl, hr, hJ1, hkc, hM⟩
    by_cases hlt : r < n
    · have hlt' : (r : Int) < (n : Int) := by omega
      have hv3 := H2.out.1.kc hkc hne
      have hb3 := H2.out.2.1.kc hkc hn1
      have c1 := hb3.cell 0 rfl
      have c2 := hv3.head.cell 1 rfl
      have H3 := Aside0.mk (And.intro hv3 (And.intro hb3 (And.intro hJ1 (And.intro hkc hM))))
      clear hv3 hb3 hJ1 hkc hM
      gi_wp2_with (fail)
      refine ⟨trivial, ?_⟩
      refine (callsIn_wide.2 (all_any_lo (some ⟨a.dg, 0, none⟩) r false _)).mono ?_
      rintro e w6 ⟨q1, q2, q3, rfl, hb, ⟨hQ1, hQ2, hQ3⟩, m1, m2, m3⟩
      obtain ⟨lr, hlr⟩ : ∃ lr, L[r]? = some lr := ⟨_, List.getElem?_eq_getElem (by rw [HT.out.ll]; exact hlt)⟩
      have hsq := HD.out.seq hlr false
      have hatt : lr.attach.map (·.1) = lr := List.attach_map_subtype_val lr
      have hlen : lr.attach.length = lr.length := List.length_attach
      simp only [Bool.false_eq_true, if_false] at hsq
      rw [← hatt] at hsq
      have hv6 := H3.out.1.below hb
      have hb6 := H3.out.2.1.below hb
      have hJ6 := own_below hJ H3.out.2.2.1 hb
      have hkc6 := H3.out.2.2.2.1.trans (KC.of_below hb)
      have hM6 : Marks W.heap.size Ds w6 := H3.out.2.2.2.2.imp fun D _ h => (hb.block D (Array.getElem?_eq_some_iff.1 h).1).trans h
      have hsz6 : W.heap.size ≤ w6.heap.size := Nat.le_trans hB hkc6.size
      have hnw : nx < wr.heap.size := by have := H3.out.2.2.2.1.size; omega
      have hq1 : q1 ≠ nx := by omega
      have hq2 : q2 ≠ nx := by omega
      have hq3 : q3 ≠ nx := by omega
      obtain ⟨P, hP⟩ : ∃ P, P = ((vw s L).take r).flatten := ⟨_, rfl⟩
      rw [← hP] at hJ6
      have hy6 := H2.out.2.2.1.kc hkc6 hgn
      have H6 := Aside0.mk (And.intro hv6 (And.intro hb6 (And.intro hJ6 (And.intro hkc6 (And.intro hM6 (And.intro hlr (And.intro hP hy6)))))))
      clear hb6 hJ6 hkc6 hb m1 m2 m3 c1 c2 hP hy6
      gi_wp2_with (fail)
      apply wpIn_rangeFunc_ownG rfl h1 (gf := 67) (lb := #[.pointer (some ⟨q1, 0, none⟩), .pointer (some ⟨q2, 0, none⟩), .pointer (some ⟨q3, 0, none⟩)]) rfl trivial (enters_of Try.func67 (by kernel_rfl) rfl)
        (all_kc (k - 1) (by omega) nx q1 q2 q3 a.dg a.br a.bl d r false lr.attach w6 hsq hv6.dq hQ1 hQ2 hQ3 hq1 hq2 hq3 hne.2.2.2.1 hne.2.2.2.2.1 hne.2.2.2.2.2.1) kc_t kc_b (Below.refl _ _) (fun _ => rfl)
        (fun pre W' => (J (P ++ pre.map (fun x => itm s x.1)) W' ∧ KC nx w6 W') ∧ Marks W.heap.size Ds W')
        (fun c pre W' => (c = .ret ∧ Jx (P ++ pre.map (fun x => itm s x.1)) W') ∧ Marks W.heap.size Ds W')
      case hI => exact OwnFrom.and (OwnFrom.and (fun s X Y row hs hg hr => hJ _ X Y row hs hg (fun r e => ⟨Nat.le_trans hsz6 (hr r e).1, (hr r e).2⟩)) ownFrom_kc) hM6.own
      case hIx => exact fun c => OwnFrom.and (fun s X Y row hs hg hr => ⟨hs.1, hJx _ X Y row hs.2 hg (fun r e => ⟨Nat.le_trans hsz6 (hr r e).1, (hr r e).2⟩)⟩) hM6.own
      case h0 => exact ⟨⟨by rw [List.map_nil, List.append_nil]; exact H6.out.2.2.1, KC.refl _ _⟩, hM6⟩
      case hassign =>
        intro l x W K hK
        gi_wp2
        exact hK
      case hbody =>
        rintro l' pre x Wb ⟨⟨hJb, hkb⟩, hMb⟩ hlt2
        obtain ⟨xi, hxi⟩ := x
        obtain ⟨kx, hkx⟩ := List.mem_iff_getElem?.1 hxi
        obtain ⟨c, t1, t2, t3, t4, t5, t6, t7, t8⟩ := HT.out.told HW.out hN H6.out.2.2.2.2.2.1 hkx
        have hxm : xi < m := by have := (List.getElem?_eq_some_iff.1 t1).1; have := HT.out.cl; omega
        have hxm' : (xi : Int) < (m : Int) := by omega
        have hx0 : (0 : Int) ≤ (xi : Int) := by omega
        have hvb := H6.out.1.kc hkb hne
        have hbb := H6.out.2.1.kc hkb hn1
        have hyb := H6.out.2.2.2.2.2.2.2.kc hkb hgn
        have e0 := hbb.cell 0 rfl
        have e1 := hvb.head.cell 0 rfl
        have e2 := hvb.head.cell 3 rfl
        have e3 : Wb.cell? ⟨a.bh, xi, none⟩ = some (.int .u64 (hof xi c)) := hvb.hd.cell xi (by rw [List.getElem?_map, t8]; rfl)
        have e4 := hyb.cell 0 rfl
        have HX := Aside0.mk (And.intro hvb (And.intro hbb (And.intro hyb (And.intro hJb (And.intro hkb (And.intro hMb (And.intro t4 (And.intro t5 t1))))))))
        have HXB := Aside0.mk hlt2
        have HX8 := Aside0.mk (show (hs.map (Value.int .u64))[xi]? = some (.int .u64 (hof xi c)) by rw [List.getElem?_map, t8]; rfl)
        clear hvb hbb hyb hJb hkb hMb t1 t2 t3 t4 t5 t8 hkx hlt2
        generalize hhx : hof xi c = hx at *
        have HHX := Aside0.mk hhx
        clear hhx
        obtain ⟨q, hq⟩ : ∃ q, q = c.q := ⟨_, rfl⟩
        obtain ⟨qt, qr, qc, qd, qa⟩ := q
        have HQ := Aside0.mk hq
        clear hq
        gi_wp2_with (fail)
        have hS0 : Wb.drew.cell? ⟨b1, 0, none⟩ = some (.pointer (some ⟨a.gq, 0, none⟩)) ∧ Wb.drew.cell? ⟨a.gq, 0, none⟩ = some (.pointer (some ⟨a.g, 0, none⟩)) ∧ Wb.drew.cell? ⟨a.gq, 3, none⟩ = some (.slice (some ⟨a.bh, 0, none⟩) m m) ∧ Wb.drew.cell? ⟨a.bh, xi, none⟩ = some (.int .u64 hx) := ⟨e0, e1, e2, e3⟩
        refine wpIn_mono (Q := fun e a' w' => e = .normal ∧ ∃ g5 : Nat, a' = { tmps := #[.func (.yield l) #[] #[], .pointer (some ⟨b1, 0, none⟩), .pointer (some ⟨gy, 0, none⟩), .int .i64 r, .int .i64 xi, .pointer (some ⟨g5, 0, none⟩), .int .i64 0, .pointer (some ⟨a.gq, 0, none⟩), .bool false, .pointer (some ⟨a.gq, 0, none⟩), .pointer (some ⟨a.gq, 0, none⟩), .pointer (some ⟨a.gq, 4, none⟩), .int .i64 n, .int .i64 r, .bool true, .int .i64 r, .pointer (some ⟨a.gq, 0, none⟩), .pointer (some ⟨a.gq, 0, none⟩), .pointer (some ⟨a.gq, 1, none⟩), .pointer (some ⟨a.dg, 0, none⟩), .int .i64 r, .func (.func 67) #[] #[.pointer (some ⟨q1, 0, none⟩), .pointer (some ⟨q2, 0, none⟩), .pointer (some ⟨q3, 0, none⟩)], .int .i64 xi, .tuple #[.agg #[.int .u64 qt, .int .i64 qr, .int .i64 qc, .int .i64 qd, .int .i64 qa], .int .i64 0], .pointer (some ⟨a.gq, 0, none⟩), .pointer (some ⟨a.gq, 0, none⟩), .pointer (some ⟨a.gq, 0, none⟩), .pointer (some ⟨a.g, 0, none⟩), .pointer (some ⟨a.gq, 0, none⟩), .pointer (some ⟨a.gq, 0, none⟩), .pointer (some ⟨a.gq, 3, none⟩), .slice (some ⟨a.bh, 0, none⟩) m m, .int .i64 xi, .pointer (some ⟨a.bh, xi, none⟩), .int .u64 hx, .tuple #[.agg #[.int .u64 qt, .int .i64 qr, .int .i64 qc, .int .i64 qd, .int .i64 qa], .int .i64 0], .agg #[.int .u64 qt, .int .i64 qr, .int .i64 qc, .int .i64 qd, .int .i64 qa], .int .i64 0, undef, undef, undef, undef, undef, undef, undef, undef, undef, undef, undef, u49], defers := [] } ∧ Below Wb.heap.size Wb w' ∧ Blk w' g5 33 [.int .u64 qt, .int .i64 qr, .int .i64 qc, .int .i64 qd, .int .i64 qa] ∧ Wb.heap.size ≤ g5) ?_ ?_
        · refine region_HI (fun w' => w'.cell? ⟨b1, 0, none⟩ = some (.pointer (some ⟨a.gq, 0, none⟩)) ∧ w'.cell? ⟨a.gq, 0, none⟩ = some (.pointer (some ⟨a.g, 0, none⟩)) ∧ w'.cell? ⟨a.gq, 3, none⟩ = some (.slice (some ⟨a.bh, 0, none⟩) m m) ∧ w'.cell? ⟨a.bh, xi, none⟩ = some (.int .u64 hx)) [1, 2, 3, 5, 6, 7, 9, 10, 11, 13, 16] (by kernel_rfl) ?_
          have hsl : SlabAt Wb.drew a.g a.gc s := HX.out.1.sl.kp (Kp.of_below (S := []) (below_drew (Below.refl _ Wb))) (by simp) (by simp)
          have HU := Aside0.mk (And.intro hsl (And.intro (below_drew (Below.refl Wb.heap.size Wb)) (And.intro (HX.out.1.below (below_drew (Below.refl _ Wb))) (HX.out.2.1.drew_))))
          have HSZ := Aside0.mk (show Wb.heap.size ≤ Wb.drew.heap.size from Nat.le_refl _)
          clear e0 e1 e2 e3 e4 hsl
          generalize Wb.drew = U at *
          refine HI_take (i := 0) 1 (oi := ⟨some 24, _, _, _, _, _⟩) (v := ?_) (by kernel_rfl) rfl rfl (by kernel_rfl) (by kernel_rfl) (by kernel_rfl) (by kernel_rfl) (by kernel_rfl) (by kernel_rfl) (fun _ _ _ h => absurd h.1 (by simp)) (Or.inl ⟨by rfl, ?_⟩) hS0 ?_
          rotate_left
          · (intro W hSw; obtain ⟨hs0, hs1, hs2, hs3⟩ := hSw; go_simp; (try with_reducible rfl))
          simp only [Act.put, List.setIfInBounds_toArray, List.set_cons_zero, List.set_cons_succ]
          refine HI_take (i := 1) 2 (oi := ⟨some 25, _, _, _, _, _⟩) (v := ?_) (by kernel_rfl) rfl rfl (by kernel_rfl) (by kernel_rfl) (by kernel_rfl) (by kernel_rfl) (by kernel_rfl) (by kernel_rfl) (fun _ _ _ h => absurd h.1 (by simp)) (Or.inl ⟨by rfl, ?_⟩) hS0 ?_
          rotate_left
          · (intro W hSw; obtain ⟨hs0, hs1, hs2, hs3⟩ := hSw; go_simp; (try with_reducible rfl))
          simp only [Act.put, List.setIfInBounds_toArray, List.set_cons_zero, List.set_cons_succ]
          refine HI_take (i := 2) 3 (oi := ⟨some 26, _, _, _, _, _⟩) (v := ?_) (by kernel_rfl) rfl rfl (by kernel_rfl) (by kernel_rfl) (by kernel_rfl) (by kernel_rfl) (by kernel_rfl) (by kernel_rfl) (fun _ _ _ h => absurd h.1 (by simp)) (Or.inl ⟨by rfl, ?_⟩) hS0 ?_
          rotate_left
          · (intro W hSw; obtain ⟨hs0, hs1, hs2, hs3⟩ := hSw; go_simp; (try with_reducible rfl))
          simp only [Act.put, List.setIfInBounds_toArray, List.set_cons_zero, List.set_cons_succ]
          refine HI_take (i := 3) 11 (oi := ⟨some 27, _, _, _, _, _⟩) (v := ?_) (by kernel_rfl) rfl rfl (by kernel_rfl) (by kernel_rfl) (by kernel_rfl) (by kernel_rfl) (by kernel_rfl) (by kernel_rfl) (fun _ _ _ h => absurd h.1 (by simp)) (Or.inl ⟨by rfl, ?_⟩) hS0 ?_
          rotate_left
          · (intro W hSw; obtain ⟨hs0, hs1, hs2, hs3⟩ := hSw; go_simp; (try with_reducible rfl))
          simp only [Act.put, List.setIfInBounds_toArray, List.set_cons_zero, List.set_cons_succ]
          refine HI_take (i := 4) 5 (oi := ⟨some 28, _, _, _, _, _⟩) (v := ?_) (by kernel_rfl) rfl rfl (by kernel_rfl) (by kernel_rfl) (by kernel_rfl) (by kernel_rfl) (by kernel_rfl) (by kernel_rfl) (fun _ _ _ h => absurd h.1 (by simp)) (Or.inl ⟨by rfl, ?_⟩) hS0 ?_
          rotate_left
          · (intro W hSw; obtain ⟨hs0, hs1, hs2, hs3⟩ := hSw; go_simp; (try with_reducible rfl))
          simp only [Act.put, List.setIfInBounds_toArray, List.set_cons_zero, List.set_cons_succ]
          refine HI_take (i := 5) 6 (oi := ⟨some 29, _, _, _, _, _⟩) (v := ?_) (by kernel_rfl) rfl rfl (by kernel_rfl) (by kernel_rfl) (by kernel_rfl) (by kernel_rfl) (by kernel_rfl) (by kernel_rfl) (fun _ _ _ h => absurd h.1 (by simp)) (Or.inl ⟨by rfl, ?_⟩) hS0 ?_
          rotate_left
          · (intro W hSw; obtain ⟨hs0, hs1, hs2, hs3⟩ := hSw; go_simp; (try with_reducible rfl))
          simp only [Act.put, List.setIfInBounds_toArray, List.set_cons_zero, List.set_cons_succ]
          refine HI_take (i := 6) 7 (oi := ⟨some 30, _, _, _, _, _⟩) (v := ?_) (by kernel_rfl) rfl rfl (by kernel_rfl) (by kernel_rfl) (by kernel_rfl) (by kernel_rfl) (by kernel_rfl) (by kernel_rfl) (fun _ _ _ h => absurd h.1 (by simp)) (Or.inl ⟨by rfl, ?_⟩) hS0 ?_
          rotate_left
          · (intro W hSw; obtain ⟨hs0, hs1, hs2, hs3⟩ := hSw; go_simp; (try with_reducible rfl))
          simp only [Act.put, List.setIfInBounds_toArray, List.set_cons_zero, List.set_cons_succ]
          refine HI_take (i := 7) 9 (oi := ⟨some 31, _, _, _, _, _⟩) (v := ?_) (by kernel_rfl) rfl rfl (by kernel_rfl) (by kernel_rfl) (by kernel_rfl) (by kernel_rfl) (by kernel_rfl) (by kernel_rfl) (fun _ _ _ h => absurd h.1 (by simp)) (Or.inl ⟨by rfl, ?_⟩) hS0 ?_
          rotate_left
          · (intro W hSw; obtain ⟨hs0, hs1, hs2, hs3⟩ := hSw; go_simp; (try with_reducible rfl))
          simp only [Act.put, List.setIfInBounds_toArray, List.set_cons_zero, List.set_cons_succ]
          refine HI_take (i := 8) 9 (oi := ⟨some 32, _, _, _, _, _⟩) (v := ?_) (by kernel_rfl) rfl rfl (by kernel_rfl) (by kernel_rfl) (by kernel_rfl) (by kernel_rfl) (by kernel_rfl) (by kernel_rfl) (fun _ _ _ h => absurd h.1 (by simp)) (Or.inl ⟨by rfl, ?_⟩) hS0 ?_
          rotate_left
          · (intro W hSw; obtain ⟨hs0, hs1, hs2, hs3⟩ := hSw; go_simp; (try with_reducible rfl))
          simp only [Act.put, List.setIfInBounds_toArray, List.set_cons_zero, List.set_cons_succ]
          refine HI_take (i := 9) 10 (oi := ⟨some 33, _, _, _, _, _⟩) (v := ?_) (by kernel_rfl) rfl rfl (by kernel_rfl) (by kernel_rfl) (by kernel_rfl) (by kernel_rfl) (by kernel_rfl) (by kernel_rfl) (fun _ _ _ h => absurd h.1 (by simp)) (Or.inl ⟨by rfl, ?_⟩) hS0 ?_
          rotate_left
          · (intro W hSw; obtain ⟨hs0, hs1, hs2, hs3⟩ := hSw; go_simp; (try with_reducible rfl))
          simp only [Act.put, List.setIfInBounds_toArray, List.set_cons_zero, List.set_cons_succ]
          refine HI_take (i := 10) 11 (oi := ⟨some 34, _, _, _, _, _⟩) (v := ?_) (by kernel_rfl) rfl rfl (by kernel_rfl) (by kernel_rfl) (by kernel_rfl) (by kernel_rfl) (by kernel_rfl) (by kernel_rfl) (fun _ _ _ h => absurd h.1 (by simp)) (Or.inl ⟨by rfl, ?_⟩) hS0 ?_
          rotate_left
          · (intro W hSw; obtain ⟨hs0, hs1, hs2, hs3⟩ := hSw; go_simp; (try with_reducible rfl))
          simp only [Act.put, List.setIfInBounds_toArray, List.set_cons_zero, List.set_cons_succ]
          refine HI_ready (rs := [11, 15]) (by kernel_rfl) (by simp) ?_
          refine AllHI.cons (by kernel_rfl) rfl (by rfl) (fun K1 hK1 => ?_) ?_
          · go_simp
            refine ⟨trivial, (fun h => by cases h), CallsIn.inRound l' (callsIn_wide.2 ((get_ok hx a.g a.gc xi s c U HU.out.1 t6 t7 (HW.out.turns32 hN) HX.out.2.2.2.2.2.2.1).mono ?_))⟩
            rintro e w7 ⟨rfl, hb7⟩
            have hqv : c.q.val = .agg #[.int .u64 qt, .int .i64 qr, .int .i64 qc, .int .i64 qd, .int .i64 qa] := by rw [← HQ.out]; rfl
            dsimp only
            rw [hqv]
            have hv7 := HU.out.2.2.1.below hb7
            have hB7 := HU.out.2.1.trans (hb7.mono HSZ.out)
            have hS7 : w7.cell? ⟨b1, 0, none⟩ = some (.pointer (some ⟨a.gq, 0, none⟩)) ∧ w7.cell? ⟨a.gq, 0, none⟩ = some (.pointer (some ⟨a.g, 0, none⟩)) ∧ w7.cell? ⟨a.gq, 3, none⟩ = some (.slice (some ⟨a.bh, 0, none⟩) m m) ∧ w7.cell? ⟨a.bh, xi, none⟩ = some (.int .u64 hx) := ⟨(HU.out.2.2.2.below hb7).cell 0 rfl, hv7.head.cell 0 rfl, hv7.head.cell 3 rfl, hv7.hd.cell xi HX8.out⟩
            have H7 := Aside0.mk (And.intro hv7 (And.intro (HU.out.2.2.2.below hb7) hB7))
            clear hv7 hB7 hb7 hqv
            refine hK1.out _ _ (fun _ => hS7) ?_
            clear hK1 K1
            refine HI_take (i := 12) 13 (oi := ⟨some 23, _, _, _, _, _⟩) (v := ?_) (by kernel_rfl) rfl rfl (by kernel_rfl) (by kernel_rfl) (by kernel_rfl) (by kernel_rfl) (by kernel_rfl) (by kernel_rfl) (fun _ _ _ h => absurd h.1 (by simp)) (Or.inl ⟨by rfl, ?_⟩) hS7 ?_
            rotate_left
            · (intro W hSw; obtain ⟨hs0, hs1, hs2, hs3⟩ := hSw; go_simp; (try with_reducible rfl))
            simp only [Act.put, List.setIfInBounds_toArray, List.set_cons_zero, List.set_cons_succ]
            refine HI_take (i := 13) 16 (oi := ⟨some 36, _, _, _, _, _⟩) (v := ?_) (by kernel_rfl) rfl rfl (by kernel_rfl) (by kernel_rfl) (by kernel_rfl) (by kernel_rfl) (by kernel_rfl) (by kernel_rfl) (fun _ _ _ h => absurd h.1 (by simp)) (Or.inl ⟨by rfl, ?_⟩) hS7 ?_
            rotate_left
            · (intro W hSw; obtain ⟨hs0, hs1, hs2, hs3⟩ := hSw; go_simp; (try with_reducible rfl))
            simp only [Act.put, List.setIfInBounds_toArray, List.set_cons_zero, List.set_cons_succ]
            refine HI_take0 (i := 14) (oi := ⟨some 37, _, _, _, _, _⟩) (v := ?_) (by kernel_rfl) rfl (by kernel_rfl) (by kernel_rfl) (by kernel_rfl) (by kernel_rfl) (fun _ _ _ h => absurd h.1 (by simp)) (Or.inl ⟨by rfl, ?_⟩) (fun _ => hS7) ?_
            rotate_left
            · (intro W hSw; go_simp; (try with_reducible rfl))
            simp only [Act.put, List.setIfInBounds_toArray, List.set_cons_zero, List.set_cons_succ]
            refine HI_ready (rs := [15]) (by kernel_rfl) (by simp) ?_
            refine AllHI.cons (by kernel_rfl) rfl (by rfl) (fun K2 hK2 => ?_) AllHI.nil
            go_simp
            have hal := below_alloc (Below.refl _ w7) (.cells #[.int .u64 0, .int .i64 0, .int .i64 0, .int .i64 0, .int .i64 0] 33)
            have hz : Blk (w7.alloc (.cells #[.int .u64 0, .int .i64 0, .int .i64 0, .int .i64 0, .int .i64 0] 33)) w7.heap.size 33 [.int .u64 0, .int .i64 0, .int .i64 0, .int .i64 0, .int .i64 0] := Blk.new w7 _ _
            have hv8 := H7.out.1.below hal
            have hb8 := H7.out.2.1.below hal
            have hB8 := H7.out.2.2.alloc H7.out.2.2.size (.cells #[.int .u64 0, .int .i64 0, .int .i64 0, .int .i64 0, .int .i64 0] 33)
            have hg5 := H7.out.2.2.size
            have hS8 : (w7.alloc (.cells #[.int .u64 0, .int .i64 0, .int .i64 0, .int .i64 0, .int .i64 0] 33)).cell? ⟨b1, 0, none⟩ = some (.pointer (some ⟨a.gq, 0, none⟩)) ∧ (w7.alloc (.cells #[.int .u64 0, .int .i64 0, .int .i64 0, .int .i64 0, .int .i64 0] 33)).cell? ⟨a.gq, 0, none⟩ = some (.pointer (some ⟨a.g, 0, none⟩)) ∧ (w7.alloc (.cells #[.int .u64 0, .int .i64 0, .int .i64 0, .int .i64 0, .int .i64 0] 33)).cell? ⟨a.gq, 3, none⟩ = some (.slice (some ⟨a.bh, 0, none⟩) m m) ∧ (w7.alloc (.cells #[.int .u64 0, .int .i64 0, .int .i64 0, .int .i64 0, .int .i64 0] 33)).cell? ⟨a.bh, xi, none⟩ = some (.int .u64 hx) := ⟨hb8.cell 0 rfl, hv8.head.cell 0 rfl, hv8.head.cell 3 rfl, hv8.hd.cell xi HX8.out⟩
            refine hK2.out _ _ (fun _ => hS8) ?_
            clear hK2 K2
            obtain ⟨g5, hg5e⟩ : ∃ g5, g5 = w7.heap.size := ⟨_, rfl⟩
            rw [← hg5e] at hz hg5
            rw [← hg5e]
            have HZ8 := Aside0.mk (And.intro hz (And.intro hv8 (And.intro hb8 (And.intro hB8 hg5))))
            clear hg5e hz hv8 hb8 hB8 hg5 hal hS8
            generalize (w7.alloc (.cells #[.int .u64 0, .int .i64 0, .int .i64 0, .int .i64 0, .int .i64 0] 33)) = w8 at *
            have z0 := HZ8.out.1.cell 0 rfl
            have z1 := HZ8.out.1.cell 1 rfl
            have z2 := HZ8.out.1.cell 2 rfl
            have z3 := HZ8.out.1.cell 3 rfl
            have z4 := HZ8.out.1.cell 4 rfl
            have zf : ∀ j, w8.frozen? ⟨g5, j, none⟩ = false := fun j => HZ8.out.1.frozen j
            refine HI_ready (rs := [16]) (by kernel_rfl) (by simp) ?_
            refine AllHI.cons (by kernel_rfl) rfl (by rfl) (fun K3 hK3 => ?_) AllHI.nil
            go_simp
            have hbz := ((((HZ8.out.1.put 0 (.int .u64 qt) rfl).put 1 (.int .i64 qr) rfl).put 2 (.int .i64 qc) rfl).put 3 (.int .i64 qd) rfl).put 4 (.int .i64 qa) rfl
            have hB9 := ((((HZ8.out.2.2.2.1.setCell (p := ⟨g5, 0, none⟩) HZ8.out.2.2.2.2 (.int .u64 qt)).setCell (p := ⟨g5, 1, none⟩) HZ8.out.2.2.2.2 (.int .i64 qr)).setCell (p := ⟨g5, 2, none⟩) HZ8.out.2.2.2.2 (.int .i64 qc)).setCell (p := ⟨g5, 3, none⟩) HZ8.out.2.2.2.2 (.int .i64 qd)).setCell (p := ⟨g5, 4, none⟩) HZ8.out.2.2.2.2 (.int .i64 qa)
            have f1 := (HZ8.out.2.2.1.far5 (g := g5) (fun e => blk_ne HZ8.out.2.2.1 HZ8.out.1 (by decide) e) (.int .u64 qt) (.int .i64 qr) (.int .i64 qc) (.int .i64 qd) (.int .i64 qa)).cell 0 rfl
            have f2 := HZ8.out.2.1.head.far5 (g := g5) (fun e => blk_ne HZ8.out.2.1.head HZ8.out.1 (by decide) e) (.int .u64 qt) (.int .i64 qr) (.int .i64 qc) (.int .i64 qd) (.int .i64 qa)
            have f3 := (HZ8.out.2.1.hd.far5 (g := g5) (fun e => blk_ne HZ8.out.2.1.hd HZ8.out.1 (by decide) e) (.int .u64 qt) (.int .i64 qr) (.int .i64 qc) (.int .i64 qd) (.int .i64 qa)).cell xi HX8.out
            have f2a := f2.cell 0 rfl
            have f2b := f2.cell 3 rfl
            refine hK3.out _ _ (fun _ => ⟨f1, f2a, f2b, f3⟩) ?_
            have hS9 := And.intro f1 (And.intro f2a (And.intro f2b f3))
            clear hK3 K3 z0 z1 z2 z3 z4 zf f1 f2 f2a f2b f3
            refine HI_take0 (i := 17) (oi := ⟨some 6, _, _, _, _, _⟩) (v := ?_) (by kernel_rfl) rfl (by kernel_rfl) (by kernel_rfl) (by kernel_rfl) (by kernel_rfl) (fun _ _ _ h => absurd h.1 (by simp)) (Or.inl ⟨by rfl, ?_⟩) (fun _ => hS9) ?_
            rotate_left
            · (intro W hSw; go_simp; (try with_reducible rfl))
            simp only [Act.put, List.setIfInBounds_toArray, List.set_cons_zero, List.set_cons_succ]
            exact HI_done (by kernel_rfl) ⟨rfl, g5, rfl, hB9, hbz, HZ8.out.2.2.2.2⟩ _
          · refine AllHI.cons (by kernel_rfl) rfl (by rfl) (fun K1 hK1 => ?_) AllHI.nil
            go_simp
            have hal := below_alloc (Below.refl _ U) (.cells #[.int .u64 0, .int .i64 0, .int .i64 0, .int .i64 0, .int .i64 0] 33)
            have hz : Blk (U.alloc (.cells #[.int .u64 0, .int .i64 0, .int .i64 0, .int .i64 0, .int .i64 0] 33)) U.heap.size 33 [.int .u64 0, .int .i64 0, .int .i64 0, .int .i64 0, .int .i64 0] := Blk.new U _ _
            have hv8 := HU.out.2.2.1.below hal
            have hb8 := HU.out.2.2.2.below hal
            have hB8 := HU.out.2.1.alloc HU.out.2.1.size (.cells #[.int .u64 0, .int .i64 0, .int .i64 0, .int .i64 0, .int .i64 0] 33)
            have hg5 := HU.out.2.1.size
            have hS8 : (U.alloc (.cells #[.int .u64 0, .int .i64 0, .int .i64 0, .int .i64 0, .int .i64 0] 33)).cell? ⟨b1, 0, none⟩ = some (.pointer (some ⟨a.gq, 0, none⟩)) ∧ (U.alloc (.cells #[.int .u64 0, .int .i64 0, .int .i64 0, .int .i64 0, .int .i64 0] 33)).cell? ⟨a.gq, 0, none⟩ = some (.pointer (some ⟨a.g, 0, none⟩)) ∧ (U.alloc (.cells #[.int .u64 0, .int .i64 0, .int .i64 0, .int .i64 0, .int .i64 0] 33)).cell? ⟨a.gq, 3, none⟩ = some (.slice (some ⟨a.bh, 0, none⟩) m m) ∧ (U.alloc (.cells #[.int .u64 0, .int .i64 0, .int .i64 0, .int .i64 0, .int .i64 0] 33)).cell? ⟨a.bh, xi, none⟩ = some (.int .u64 hx) := ⟨hb8.cell 0 rfl, hv8.head.cell 0 rfl, hv8.head.cell 3 rfl, hv8.hd.cell xi HX8.out⟩
            refine hK1.out _ _ (fun _ => hS8) ?_
            clear hK1 K1
            obtain ⟨g5, hg5e⟩ : ∃ g5, g5 = U.heap.size := ⟨_, rfl⟩
            rw [← hg5e] at hz hg5
            rw [← hg5e]
            have HZ6 := Aside0.mk (And.intro hz (And.intro hv8 (And.intro hb8 (And.intro hB8 hg5))))
            clear hg5e hz hv8 hb8 hB8 hg5 hal hS8
            generalize (U.alloc (.cells #[.int .u64 0, .int .i64 0, .int .i64 0, .int .i64 0, .int .i64 0] 33)) = U6 at *
            refine HI_ready (rs := [11]) (by kernel_rfl) (by simp) ?_
            refine AllHI.cons (by kernel_rfl) rfl (by rfl) (fun K2 hK2 => ?_) AllHI.nil
            go_simp
            refine ⟨trivial, (fun h => by cases h), CallsIn.inRound l' (callsIn_wide.2 ((get_ok hx a.g a.gc xi s c U6 HZ6.out.2.1.sl t6 t7 (HW.out.turns32 hN) HX.out.2.2.2.2.2.2.1).mono ?_))⟩
            rintro e w8 ⟨rfl, hb7⟩
            have hqv : c.q.val = .agg #[.int .u64 qt, .int .i64 qr, .int .i64 qc, .int .i64 qd, .int .i64 qa] := by rw [← HQ.out]; rfl
            dsimp only
            rw [hqv]
            have hv7 := HZ6.out.2.1.below hb7
            have hB7 := HZ6.out.2.2.2.1.trans (hb7.mono HZ6.out.2.2.2.1.size)
            have hS7 : w8.cell? ⟨b1, 0, none⟩ = some (.pointer (some ⟨a.gq, 0, none⟩)) ∧ w8.cell? ⟨a.gq, 0, none⟩ = some (.pointer (some ⟨a.g, 0, none⟩)) ∧ w8.cell? ⟨a.gq, 3, none⟩ = some (.slice (some ⟨a.bh, 0, none⟩) m m) ∧ w8.cell? ⟨a.bh, xi, none⟩ = some (.int .u64 hx) := ⟨(HZ6.out.2.2.1.below hb7).cell 0 rfl, hv7.head.cell 0 rfl, hv7.head.cell 3 rfl, hv7.hd.cell xi HX8.out⟩
            have HZ8 := Aside0.mk (And.intro (HZ6.out.1.below hb7) (And.intro hv7 (And.intro (HZ6.out.2.2.1.below hb7) (And.intro hB7 HZ6.out.2.2.2.2))))
            clear hv7 hB7 hb7 hqv
            refine hK2.out _ _ (fun _ => hS7) ?_
            clear hK2 K2
            refine HI_take (i := 12) 13 (oi := ⟨some 23, _, _, _, _, _⟩) (v := ?_) (by kernel_rfl) rfl rfl (by kernel_rfl) (by kernel_rfl) (by kernel_rfl) (by kernel_rfl) (by kernel_rfl) (by kernel_rfl) (fun _ _ _ h => absurd h.1 (by simp)) (Or.inl ⟨by rfl, ?_⟩) hS7 ?_
            rotate_left
            · (intro W hSw; obtain ⟨hs0, hs1, hs2, hs3⟩ := hSw; go_simp; (try with_reducible rfl))
            simp only [Act.put, List.setIfInBounds_toArray, List.set_cons_zero, List.set_cons_succ]
            refine HI_take (i := 13) 16 (oi := ⟨some 36, _, _, _, _, _⟩) (v := ?_) (by kernel_rfl) rfl rfl (by kernel_rfl) (by kernel_rfl) (by kernel_rfl) (by kernel_rfl) (by kernel_rfl) (by kernel_rfl) (fun _ _ _ h => absurd h.1 (by simp)) (Or.inl ⟨by rfl, ?_⟩) hS7 ?_
            rotate_left
            · (intro W hSw; obtain ⟨hs0, hs1, hs2, hs3⟩ := hSw; go_simp; (try with_reducible rfl))
            simp only [Act.put, List.setIfInBounds_toArray, List.set_cons_zero, List.set_cons_succ]
            refine HI_take0 (i := 14) (oi := ⟨some 37, _, _, _, _, _⟩) (v := ?_) (by kernel_rfl) rfl (by kernel_rfl) (by kernel_rfl) (by kernel_rfl) (by kernel_rfl) (fun _ _ _ h => absurd h.1 (by simp)) (Or.inl ⟨by rfl, ?_⟩) (fun _ => hS7) ?_
            rotate_left
            · (intro W hSw; go_simp; (try with_reducible rfl))
            simp only [Act.put, List.setIfInBounds_toArray, List.set_cons_zero, List.set_cons_succ]
            have z0 := HZ8.out.1.cell 0 rfl
            have z1 := HZ8.out.1.cell 1 rfl
            have z2 := HZ8.out.1.cell 2 rfl
            have z3 := HZ8.out.1.cell 3 rfl
            have z4 := HZ8.out.1.cell 4 rfl
            have zf : ∀ j, w8.frozen? ⟨g5, j, none⟩ = false := fun j => HZ8.out.1.frozen j
            refine HI_ready (rs := [16]) (by kernel_rfl) (by simp) ?_
            refine AllHI.cons (by kernel_rfl) rfl (by rfl) (fun K3 hK3 => ?_) AllHI.nil
            go_simp
            have hbz := ((((HZ8.out.1.put 0 (.int .u64 qt) rfl).put 1 (.int .i64 qr) rfl).put 2 (.int .i64 qc) rfl).put 3 (.int .i64 qd) rfl).put 4 (.int .i64 qa) rfl
            have hB9 := ((((HZ8.out.2.2.2.1.setCell (p := ⟨g5, 0, none⟩) HZ8.out.2.2.2.2 (.int .u64 qt)).setCell (p := ⟨g5, 1, none⟩) HZ8.out.2.2.2.2 (.int .i64 qr)).setCell (p := ⟨g5, 2, none⟩) HZ8.out.2.2.2.2 (.int .i64 qc)).setCell (p := ⟨g5, 3, none⟩) HZ8.out.2.2.2.2 (.int .i64 qd)).setCell (p := ⟨g5, 4, none⟩) HZ8.out.2.2.2.2 (.int .i64 qa)
            have f1 := (HZ8.out.2.2.1.far5 (g := g5) (fun e => blk_ne HZ8.out.2.2.1 HZ8.out.1 (by decide) e) (.int .u64 qt) (.int .i64 qr) (.int .i64 qc) (.int .i64 qd) (.int .i64 qa)).cell 0 rfl
            have f2 := HZ8.out.2.1.head.far5 (g := g5) (fun e => blk_ne HZ8.out.2.1.head HZ8.out.1 (by decide) e) (.int .u64 qt) (.int .i64 qr) (.int .i64 qc) (.int .i64 qd) (.int .i64 qa)
            have f3 := (HZ8.out.2.1.hd.far5 (g := g5) (fun e => blk_ne HZ8.out.2.1.hd HZ8.out.1 (by decide) e) (.int .u64 qt) (.int .i64 qr) (.int .i64 qc) (.int .i64 qd) (.int .i64 qa)).cell xi HX8.out
            have f2a := f2.cell 0 rfl
            have f2b := f2.cell 3 rfl
            refine hK3.out _ _ (fun _ => ⟨f1, f2a, f2b, f3⟩) ?_
            have hS9 := And.intro f1 (And.intro f2a (And.intro f2b f3))
            clear hK3 K3 z0 z1 z2 z3 z4 zf f1 f2 f2a f2b f3
            refine HI_take0 (i := 17) (oi := ⟨some 6, _, _, _, _, _⟩) (v := ?_) (by kernel_rfl) rfl (by kernel_rfl) (by kernel_rfl) (by kernel_rfl) (by kernel_rfl) (fun _ _ _ h => absurd h.1 (by simp)) (Or.inl ⟨by rfl, ?_⟩) (fun _ => hS9) ?_
            rotate_left
            · (intro W hSw; go_simp; (try with_reducible rfl))
            simp only [Act.put, List.setIfInBounds_toArray, List.set_cons_zero, List.set_cons_succ]
            exact HI_done (by kernel_rfl) ⟨rfl, g5, rfl, hB9, hbz, HZ8.out.2.2.2.2⟩ _
        · rintro e a' w9 ⟨rfl, g5, rfl, hB9, hbz, hg5⟩
          have hv9 := HX.out.1.below hB9
          have hb9 := HX.out.2.1.below hB9
          have hy9 := HX.out.2.2.1.below hB9
          have hJ9 := own_below hJ HX.out.2.2.2.1 hB9
          have e0 := hy9.cell 0 rfl
          have e1 := hb9.cell 0 rfl
          have e2 := hv9.head.cell 3 rfl
          have e3 : w9.cell? ⟨a.bh, xi, none⟩ = some (.int .u64 hx) := hv9.hd.cell xi HX8.out
          have e5 := hbz.cell 0 rfl
          have e6 := hbz.cell 1 rfl
          have e7 := hbz.cell 2 rfl
          have e8 := hbz.cell 3 rfl
          have e9 := hbz.cell 4 rfl
          have HJ9 := Aside0.mk (And.intro hJ9 hB9)
          clear hv9 hb9 hy9 hJ9 hB9 hbz e4
          gi_wp2_with (fail)
          have hS0 : w9.drew.cell? ⟨gy, 0, none⟩ = some (.func (.yield l) #[] #[]) ∧ w9.drew.cell? ⟨b1, 0, none⟩ = some (.pointer (some ⟨a.gq, 0, none⟩)) ∧ w9.drew.cell? ⟨a.gq, 3, none⟩ = some (.slice (some ⟨a.bh, 0, none⟩) m m) ∧ w9.drew.cell? ⟨a.bh, xi, none⟩ = some (.int .u64 hx) ∧ w9.drew.cell? ⟨g5, 0, none⟩ = some (.int .u64 qt) ∧ w9.drew.cell? ⟨g5, 1, none⟩ = some (.int .i64 qr) ∧ w9.drew.cell? ⟨g5, 2, none⟩ = some (.int .i64 qc) ∧ w9.drew.cell? ⟨g5, 3, none⟩ = some (.int .i64 qd) ∧ w9.drew.cell? ⟨g5, 4, none⟩ = some (.int .i64 qa) := ⟨e0, e1, e2, e3, e5, e6, e7, e8, e9⟩
          refine wpIn_mono (Q := fun e a' w' => e = .normal ∧ ∃ bb : Bool, a' = { tmps := #[.func (.yield l) #[] #[], .pointer (some ⟨b1, 0, none⟩), .pointer (some ⟨gy, 0, none⟩), .int .i64 r, .int .i64 xi, .pointer (some ⟨g5, 0, none⟩), .int .i64 0, .pointer (some ⟨a.gq, 0, none⟩), .bool false, .pointer (some ⟨a.gq, 0, none⟩), .pointer (some ⟨a.gq, 0, none⟩), .pointer (some ⟨a.gq, 4, none⟩), .int .i64 n, .int .i64 r, .bool true, .int .i64 r, .pointer (some ⟨a.gq, 0, none⟩), .pointer (some ⟨a.gq, 0, none⟩), .pointer (some ⟨a.gq, 1, none⟩), .pointer (some ⟨a.dg, 0, none⟩), .int .i64 r, .func (.func 67) #[] #[.pointer (some ⟨q1, 0, none⟩), .pointer (some ⟨q2, 0, none⟩), .pointer (some ⟨q3, 0, none⟩)], .int .i64 xi, .tuple #[.agg #[.int .u64 qt, .int .i64 qr, .int .i64 qc, .int .i64 qd, .int .i64 qa], .int .i64 0], .pointer (some ⟨a.gq, 0, none⟩), .pointer (some ⟨a.gq, 0, none⟩), .pointer (some ⟨a.gq, 0, none⟩), .pointer (some ⟨a.g, 0, none⟩), .pointer (some ⟨a.gq, 0, none⟩), .pointer (some ⟨a.gq, 0, none⟩), .pointer (some ⟨a.gq, 3, none⟩), .slice (some ⟨a.bh, 0, none⟩) m m, .int .i64 xi, .pointer (some ⟨a.bh, xi, none⟩), .int .u64 hx, .tuple #[.agg #[.int .u64 qt, .int .i64 qr, .int .i64 qc, .int .i64 qd, .int .i64 qa], .int .i64 0], .agg #[.int .u64 qt, .int .i64 qr, .int .i64 qc, .int .i64 qd, .int .i64 qa], .int .i64 0, .func (.yield l) #[] #[], .pointer (some ⟨a.gq, 0, none⟩), .pointer (some ⟨a.gq, 0, none⟩), .pointer (some ⟨a.gq, 3, none⟩), .slice (some ⟨a.bh, 0, none⟩) m m, .int .i64 xi, .pointer (some ⟨a.bh, xi, none⟩), .int .u64 hx, .agg #[.int .u64 qt, .int .i64 qr, .int .i64 qc, .int .i64 qd, .int .i64 qa], .bool bb, .bool (!bb), u49], defers := [] } ∧ (∀ B1, bb = B1 → (B1 = true → J ((P ++ pre.map (fun x => itm s x.1)) ++ [(hx, ⟨qt, qr, qc, qd, qa⟩)]) w' ∧ KK B0 nx w9 w') ∧ (B1 = false → Jx ((P ++ pre.map (fun x => itm s x.1)) ++ [(hx, ⟨qt, qr, qc, qd, qa⟩)]) w' ∧ KeepsFrom B0 w9 w'))) ?_ ?_
          · refine region_HI (fun w' => w'.cell? ⟨gy, 0, none⟩ = some (.func (.yield l) #[] #[]) ∧ w'.cell? ⟨b1, 0, none⟩ = some (.pointer (some ⟨a.gq, 0, none⟩)) ∧ w'.cell? ⟨a.gq, 3, none⟩ = some (.slice (some ⟨a.bh, 0, none⟩) m m) ∧ w'.cell? ⟨a.bh, xi, none⟩ = some (.int .u64 hx) ∧ w'.cell? ⟨g5, 0, none⟩ = some (.int .u64 qt) ∧ w'.cell? ⟨g5, 1, none⟩ = some (.int .i64 qr) ∧ w'.cell? ⟨g5, 2, none⟩ = some (.int .i64 qc) ∧ w'.cell? ⟨g5, 3, none⟩ = some (.int .i64 qd) ∧ w'.cell? ⟨g5, 4, none⟩ = some (.int .i64 qa)) [2, 3, 4, 6, 7, 9] (by kernel_rfl) ?_
            clear e0 e1 e2 e3 e5 e6 e7 e8 e9
            have hlen2 : (P ++ pre.map (fun x => itm s x.1)).length < (vw s L).flatten.length := by
              have h1 := (flat_split (vw_at (s := s) H6.out.2.2.2.2.2.1)).1
              rw [h1, ← H6.out.2.2.2.2.2.2.1]
              have h2 := HXB.out
              rw [hlen] at h2
              simp only [List.length_append, List.length_map]
              omega
            obtain ⟨fn, tmps, assign, body, hy, hR⟩ := hY (P ++ pre.map (fun x => itm s x.1)) (hx, ⟨qt, qr, qc, qd, qa⟩) w9.drew (own_below hJ HJ9.out.1 (below_drew (Below.refl _ w9))) hlen2
            unfold Rq.val at hy
            dsimp only at hy
            have HR := Aside0.mk hR
            clear hR hlen2
            have hkk : KK B0 nx w9 w9.drew := KK.of_below (below_drew (Below.refl _ w9))
            have HKK := Aside0.mk hkk
            clear hkk
            generalize w9.drew = U at *
            refine HI_take (i := 0) 9 (oi := ⟨some 38, _, _, _, _, _⟩) (v := ?_) (by kernel_rfl) rfl rfl (by kernel_rfl) (by kernel_rfl) (by kernel_rfl) (by kernel_rfl) (by kernel_rfl) (by kernel_rfl) (fun _ _ _ h => absurd h.1 (by simp)) (Or.inl ⟨by rfl, ?_⟩) hS0 ?_
            rotate_left
            · (intro W hSw; obtain ⟨hs0, hs1, hs2, hs3, hs4, hs5, hs6, hs7, hs8⟩ := hSw; go_simp; (try with_reducible rfl))
            simp only [Act.put, List.setIfInBounds_toArray, List.set_cons_zero, List.set_cons_succ]
            refine HI_take (i := 1) 2 (oi := ⟨some 39, _, _, _, _, _⟩) (v := ?_) (by kernel_rfl) rfl rfl (by kernel_rfl) (by kernel_rfl) (by kernel_rfl) (by kernel_rfl) (by kernel_rfl) (by kernel_rfl) (fun _ _ _ h => absurd h.1 (by simp)) (Or.inl ⟨by rfl, ?_⟩) hS0 ?_
            rotate_left
            · (intro W hSw; obtain ⟨hs0, hs1, hs2, hs3, hs4, hs5, hs6, hs7, hs8⟩ := hSw; go_simp; (try with_reducible rfl))
            simp only [Act.put, List.setIfInBounds_toArray, List.set_cons_zero, List.set_cons_succ]
            refine HI_take (i := 2) 3 (oi := ⟨some 40, _, _, _, _, _⟩) (v := ?_) (by kernel_rfl) rfl rfl (by kernel_rfl) (by kernel_rfl) (by kernel_rfl) (by kernel_rfl) (by kernel_rfl) (by kernel_rfl) (fun _ _ _ h => absurd h.1 (by simp)) (Or.inl ⟨by rfl, ?_⟩) hS0 ?_
            rotate_left
            · (intro W hSw; obtain ⟨hs0, hs1, hs2, hs3, hs4, hs5, hs6, hs7, hs8⟩ := hSw; go_simp; (try with_reducible rfl))
            simp only [Act.put, List.setIfInBounds_toArray, List.set_cons_zero, List.set_cons_succ]
            refine HI_take (i := 3) 4 (oi := ⟨some 41, _, _, _, _, _⟩) (v := ?_) (by kernel_rfl) rfl rfl (by kernel_rfl) (by kernel_rfl) (by kernel_rfl) (by kernel_rfl) (by kernel_rfl) (by kernel_rfl) (fun _ _ _ h => absurd h.1 (by simp)) (Or.inl ⟨by rfl, ?_⟩) hS0 ?_
            rotate_left
            · (intro W hSw; obtain ⟨hs0, hs1, hs2, hs3, hs4, hs5, hs6, hs7, hs8⟩ := hSw; go_simp; (try with_reducible rfl))
            simp only [Act.put, List.setIfInBounds_toArray, List.set_cons_zero, List.set_cons_succ]
            refine HI_take (i := 4) 6 (oi := ⟨some 42, _, _, _, _, _⟩) (v := ?_) (by kernel_rfl) rfl rfl (by kernel_rfl) (by kernel_rfl) (by kernel_rfl) (by kernel_rfl) (by kernel_rfl) (by kernel_rfl) (fun _ _ _ h => absurd h.1 (by simp)) (Or.inl ⟨by rfl, ?_⟩) hS0 ?_
            rotate_left
            · (intro W hSw; obtain ⟨hs0, hs1, hs2, hs3, hs4, hs5, hs6, hs7, hs8⟩ := hSw; go_simp; (try with_reducible rfl))
            simp only [Act.put, List.setIfInBounds_toArray, List.set_cons_zero, List.set_cons_succ]
            refine HI_take (i := 5) 6 (oi := ⟨some 43, _, _, _, _, _⟩) (v := ?_) (by kernel_rfl) rfl rfl (by kernel_rfl) (by kernel_rfl) (by kernel_rfl) (by kernel_rfl) (by kernel_rfl) (by kernel_rfl) (fun _ _ _ h => absurd h.1 (by simp)) (Or.inl ⟨by rfl, ?_⟩) hS0 ?_
            rotate_left
            · (intro W hSw; obtain ⟨hs0, hs1, hs2, hs3, hs4, hs5, hs6, hs7, hs8⟩ := hSw; go_simp; (try with_reducible rfl))
            simp only [Act.put, List.setIfInBounds_toArray, List.set_cons_zero, List.set_cons_succ]
            refine HI_take (i := 6) 7 (oi := ⟨some 44, _, _, _, _, _⟩) (v := ?_) (by kernel_rfl) rfl rfl (by kernel_rfl) (by kernel_rfl) (by kernel_rfl) (by kernel_rfl) (by kernel_rfl) (by kernel_rfl) (fun _ _ _ h => absurd h.1 (by simp)) (Or.inl ⟨by rfl, ?_⟩) hS0 ?_
            rotate_left
            · (intro W hSw; obtain ⟨hs0, hs1, hs2, hs3, hs4, hs5, hs6, hs7, hs8⟩ := hSw; go_simp; (try with_reducible rfl))
            simp only [Act.put, List.setIfInBounds_toArray, List.set_cons_zero, List.set_cons_succ]
            refine HI_take (i := 7) 9 (oi := ⟨some 45, _, _, _, _, _⟩) (v := ?_) (by kernel_rfl) rfl rfl (by kernel_rfl) (by kernel_rfl) (by kernel_rfl) (by kernel_rfl) (by kernel_rfl) (by kernel_rfl) (fun _ _ _ h => absurd h.1 (by simp)) (Or.inl ⟨by rfl, ?_⟩) hS0 ?_
            rotate_left
            · (intro W hSw; obtain ⟨hs0, hs1, hs2, hs3, hs4, hs5, hs6, hs7, hs8⟩ := hSw; go_simp; (try with_reducible rfl))
            simp only [Act.put, List.setIfInBounds_toArray, List.set_cons_zero, List.set_cons_succ]
            refine HI_take (i := 8) 9 (oi := ⟨some 46, _, _, _, _, _⟩) (v := ?_) (by kernel_rfl) rfl rfl (by kernel_rfl) (by kernel_rfl) (by kernel_rfl) (by kernel_rfl) (by kernel_rfl) (by kernel_rfl) (fun _ _ _ h => absurd h.1 (by simp)) (Or.inl ⟨by rfl, ?_⟩) hS0 ?_
            rotate_left
            · (intro W hSw; obtain ⟨hs0, hs1, hs2, hs3, hs4, hs5, hs6, hs7, hs8⟩ := hSw; go_simp; (try with_reducible rfl))
            simp only [Act.put, List.setIfInBounds_toArray, List.set_cons_zero, List.set_cons_succ]
            refine HI_ready (rs := [9]) (by kernel_rfl) (by simp) ?_
            refine AllHI.cons (by kernel_rfl) rfl (by rfl) (fun K1 hK1 => ?_) AllHI.nil
            go_simp
            refine ⟨(fun h => by cases h), round_any (HR.out.mono ?_)⟩
            rintro e W3 (⟨rfl, hJ3, hk3⟩ | ⟨rfl, hJx3, hk3⟩)
            · dsimp only
              refine hK1.out _ _ (notDueR (by kernel_rfl)) ?_
              clear hK1 K1
              refine HI_take0 (i := 10) (oi := ⟨some 48, _, _, _, _, _⟩) (v := ?_) (by kernel_rfl) rfl (by kernel_rfl) (by kernel_rfl) (by kernel_rfl) (by kernel_rfl) (fun _ _ _ h => absurd h.1 (by simp)) (Or.inl ⟨by rfl, ?_⟩) (notDueR (by kernel_rfl)) ?_
              rotate_left
              · (intro W hSw; go_simp; (try with_reducible rfl))
              simp only [Act.put, List.setIfInBounds_toArray, List.set_cons_zero, List.set_cons_succ]
              exact HI_done (by kernel_rfl) ⟨rfl, true, rfl, fun B1 e => by subst e; exact ⟨fun _ => ⟨hJ3, kk_t HKK.out hk3⟩, fun h => (by cases h)⟩⟩ _
            · dsimp only
              refine hK1.out _ _ (notDueR (by kernel_rfl)) ?_
              clear hK1 K1
              refine HI_take0 (i := 10) (oi := ⟨some 48, _, _, _, _, _⟩) (v := ?_) (by kernel_rfl) rfl (by kernel_rfl) (by kernel_rfl) (by kernel_rfl) (by kernel_rfl) (fun _ _ _ h => absurd h.1 (by simp)) (Or.inl ⟨by rfl, ?_⟩) (notDueR (by kernel_rfl)) ?_
              rotate_left
              · (intro W hSw; go_simp; (try with_reducible rfl))
              simp only [Act.put, List.setIfInBounds_toArray, List.set_cons_zero, List.set_cons_succ]
              exact HI_done (by kernel_rfl) ⟨rfl, false, rfl, fun B1 e => by subst e; exact ⟨fun h => (by cases h), fun _ => ⟨hJx3, HKK.out.2.trans hk3⟩⟩⟩ _
          · rintro e a' W3 ⟨rfl, bb, rfl, hbb⟩
            have hbb := hbb bb rfl
            have hii : itm s xi = (hx, ⟨qt, qr, qc, qd, qa⟩) := by
              have := HX.out.2.2.2.2.2.2.2.1
              rw [this, HQ.out]
            have hpre : (P ++ pre.map (fun x => itm s x.1)) ++ [(hx, ⟨qt, qr, qc, qd, qa⟩)] = P ++ (pre ++ [(⟨xi, hxi⟩ : {x : Nat // x ∈ lr})]).map (fun x => itm s x.1) := by
              rw [List.map_append, List.map_cons, List.map_nil, List.append_assoc, hii]
            rw [hpre] at hbb
            have HBB := Aside0.mk hbb
            clear hbb hii hpre e0 e1 e2 e3 e5 e6 e7 e8 e9
            have hB06 : B0 ≤ w6.heap.size := Nat.le_trans hB0 hsz6
            have hk9 : KeepsFrom w6.heap.size Wb w9 := ⟨HJ9.out.2.size, fun k o _ h0 _ => (HJ9.out.2.block k (Array.getElem?_eq_some_iff.1 h0).1).trans h0⟩
            have hc9 : KC nx Wb w9 := KC.of_below HJ9.out.2
            have hm9 : Marks W.heap.size Ds w9 := HX.out.2.2.2.2.2.1.imp fun D _ h => (HJ9.out.2.block D (Array.getElem?_eq_some_iff.1 h).1).trans h
            have HM9 := Aside0.mk (And.intro hk9 (And.intro hc9 hm9))
            clear hk9 hc9 hm9
            cases bb with
            | true =>
              gi_wp2_with (fail)
              have hun : (pre ++ [(⟨xi, hxi⟩ : {x : Nat // x ∈ lr})]).map (fun x => itm s x.1) = (pre ++ [(⟨xi, hxi⟩ : {x : Nat // x ∈ lr})]).unattach.map (itm s) := by unfold List.unattach; rw [List.map_map]; rfl
              obtain ⟨hJ3, hc3, hk3⟩ := HBB.out.1 (by first | rfl | trivial)
              exact ⟨HM9.out.1.trans (KeepsFrom.up hk3 hB06), HM9.out.2.1.trans hc3, ⟨hun ▸ hJ3, (HX.out.2.2.2.2.1.trans HM9.out.2.1).trans hc3⟩, Marks.keep (KeepsFrom.up hk3 hB0) HM9.out.2.2⟩
            | false =>
              gi_wp2_with (fail)
              have hun : (pre ++ [(⟨xi, hxi⟩ : {x : Nat // x ∈ lr})]).map (fun x => itm s x.1) = (pre ++ [(⟨xi, hxi⟩ : {x : Nat // x ∈ lr})]).unattach.map (itm s) := by unfold List.unattach; rw [List.map_map]; rfl
              obtain ⟨hJ3, hk3⟩ := HBB.out.2 (by first | rfl | trivial)
              exact ⟨HM9.out.1.trans (KeepsFrom.up hk3 hB06), ⟨rfl, hun ▸ hJ3⟩, Marks.keep (KeepsFrom.up hk3 hB0) HM9.out.2.2⟩
      case hdone =>
        rintro D ys V hD rfl ⟨⟨hJv, hkv⟩, hMv⟩ hK
        have hatm : lr.attach.map (fun x => itm s x.1) = lr.map (itm s) := by
          have := congrArg (List.map (itm s)) hatt
          rw [List.map_map] at this
          exact this
        rw [hatm, H6.out.2.2.2.2.2.2.1, ← (flat_split (vw_at (s := s) H6.out.2.2.2.2.2.1)).2] at hJv
        have hMD : Marks W.heap.size ({ target := .collected D, args := #[] } :: Ds) V := by
          refine ⟨⟨D, Nat.le_trans hsz6 hD, rfl, hK, fun e he ht => ?_⟩, hMv⟩
          obtain ⟨D', h3, h4⟩ := hM6.lt e he
          rw [h4] at ht
          injection ht with ht
          omega
        have hkV := H6.out.2.2.2.1.trans hkv
        have HV := Aside0.mk (And.intro hJv (And.intro hkV hMD))
        clear hJv hkv hMv hkV hMD hatm
        gi_wp2_with (fail)
        have hr1 : ((r + 1 : Nat) : Int) = (r : Int) + 1 := by omega
        refine ⟨⟨r + 1, { target := .collected D, args := #[] } :: Ds, .int .i64 r, .bool true, .int .i64 r, .pointer (some ⟨a.gq, 0, none⟩), .pointer (some ⟨a.gq, 0, none⟩), .pointer (some ⟨a.gq, 1, none⟩), .pointer (some ⟨a.dg, 0, none⟩), .int .i64 r, .func (.func 67) #[] #[.pointer (some ⟨q1, 0, none⟩), .pointer (some ⟨q2, 0, none⟩), .pointer (some ⟨q3, 0, none⟩)], .int .i64 ((r : Int) + 1), by rw [hr1], by omega, HV.out.1, HV.out.2.1, HV.out.2.2⟩, by simp [intOf]; omega⟩
      case hstop =>
        rintro D c pre V hD hpre ⟨⟨rfl, hJv⟩, hMv⟩ hK
        have hMD : Marks W.heap.size ({ target := .collected D, args := #[] } :: Ds) V := by
          refine ⟨⟨D, Nat.le_trans hsz6 hD, rfl, hK, fun e he ht => ?_⟩, hMv⟩
          obtain ⟨D', h3, h4⟩ := hM6.lt e he
          rw [h4] at ht
          injection ht with ht
          omega
        have hpf : P ++ pre.map (fun x => itm s x.1) <+: (vw s L).flatten := by
          rw [(flat_split (vw_at (s := s) H6.out.2.2.2.2.2.1)).1, ← H6.out.2.2.2.2.2.2.1, List.append_assoc]
          refine (List.prefix_append_right_inj P).2 ?_
          have hatm : lr.attach.map (fun x => itm s x.1) = lr.map (itm s) := by
            have := congrArg (List.map (itm s)) hatt
            rw [List.map_map] at this
            exact this
          rw [← hatm]
          exact (List.IsPrefix.map _ hpre).trans (List.prefix_append _ _)
        have HV := Aside0.mk (And.intro hJv (And.intro hMD hpf))
        clear hJv hMv hMD hpf
        gi_wp2_with (fail)
        refine marks_out (B := W.heap.size) (fun W' => Jx (P ++ pre.map (fun x => itm s x.1)) W') (fun W' D' h3 h4 h5 => hJx.putObj _ h5 h3 h4 rfl) (fun W' h => ?_) _ _ HV.out.2.1 HV.out.1
        exact ⟨_, results_none rfl _ _ _, ⟨_, rfl⟩, .inr ⟨_, HV.out.2.2, h⟩⟩
    · have hrn : r = n := by omega
      have htk : (vw s L).take r = vw s L := List.take_of_length_le (by rw [vw_len, HT.out.ll]; omega)
      rw [htk] at hJ1
      have HV := Aside0.mk (And.intro hJ1 hM)
      clear hJ1 hM hkc
      gi_wp2_with (fail)
      refine marks_out (B := W.heap.size) (fun W' => J (vw s L).flatten W') (fun W' D' h3 h4 h5 => hJ.putObj _ h5 h3 h4 rfl) (fun W' h => ?_) _ _ HV.out.2 HV.out.1
      exact ⟨_, results_none rfl _ _ _, ⟨_, rfl⟩, .inl ⟨_, rfl, h⟩⟩
end
end Go.Proofs.Ytifffmfbipjilaa.Z
