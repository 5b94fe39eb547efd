/- The document's slab: New. -/
import Derived.Test.YtifffmfbipjilaaSlabd
import Derived.Test.YtifffmfbipjilaaZmerge
namespace Go.Proofs.Ytifffmfbipjilaa.Z
open Go.RowKit Go.Proofs.YtifffmfbipjilaaW Go.Proofs.YtifffmfbipjilaaW.PrintWords
set_option linter.unusedVariables false
set_option linter.unusedSimpArgs false
def Rq.nil : Rq := ⟨0, 0, 0, 0, 0⟩
def upTo (k : Nat) : List Int := (List.range k).map (fun i : Nat => (i : Int))
theorem upTo_len (k : Nat) : (upTo k).length = k := by simp [upTo]
theorem upTo_succ (k : Nat) : upTo (k + 1) = upTo k ++ [(k : Int)] := by simp [upTo, List.range_succ]
/-- Behind k rounds. -/
structure NS (w : World) (base gx : Nat) (vq vt vn vf : Value) (k : Nat) : Prop where
  head : Blk w gx 97 [vq, vt, vn, vf]
  rq : Rq.kd.R 60 w base (fun _ => True) vq (List.replicate k Rq.nil)
  tk : Kd.bool.R 4 w base (fun _ => True) vt (List.replicate k false)
  tn : (Kd.int .u64).R 28 w base (fun _ => True) vn (List.replicate k 0)
  fr : (Kd.int .i64).R 3 w base (fun _ => True) vf (upTo k)
theorem NS.below {w W : World} {base gx k : Nat} {vq vt vn vf : Value} (h : NS w base gx vq vt vn vf k) (hb : Below w.heap.size w W) : NS W base gx vq vt vn vf k :=
  ⟨h.head.below hb, Kd.R_below h.rq hb, Kd.R_below h.tk hb, Kd.R_below h.tn hb, Kd.R_below h.fr hb⟩
/-- A field within the round: 0: as it was; 1: the literal is made; 2: it is appended. -/
def St {α : Type} (d : Kd α) (e base : Nat) (w : World) (v : Value) (xs : List α) (x : α) : Nat → Value → Value → Prop
  | 0, _, _ => d.R e w base (fun _ => True) v xs
  | 1, p, _ => d.R e w base (fun _ => True) v xs ∧ d.R e w base (fun _ => True) p [x]
  | _, _, q => d.R e w base (fun _ => True) q (xs ++ [x])
section
variable {α β : Type} {d : Kd α} {d' : Kd β} {e e' base b' s : Nat} {w w1 : World} {v p q u : Value} {xs : List α} {x : α} {ys : List β}
theorem St.none_ (h : St d e base w v xs x s p q) (hg : w.grownBy w1 none) : St d e base w1 v xs x s p q := by
  have m : ∀ {v : Value} {l : List α}, d.R e w base (fun _ => True) v l → d.R e w1 base (fun _ => True) v l := fun h => Kd.R_grown h hg (fun _ _ h => by cases h)
  unfold St at *
  split at h
  · exact m h
  · exact ⟨m h.1, m h.2⟩
  · exact m h
theorem St.over (h : St d e base w v xs x s p q) (hE : d.E = []) (hv : d'.R e' w b' (fun _ => True) u ys) (hne : e ≠ e') (hg : w.grownBy w1 u.ownBlock) : St d e base w1 v xs x s p q := by
  have m : ∀ {v : Value} {l : List α}, d.R e w base (fun _ => True) v l → d.R e w1 base (fun _ => True) v l := fun h => Kd.R_over h hv (by rw [hE]; simpa using hne) hg
  unfold St at *
  split at h
  · exact m h
  · exact ⟨m h.1, m h.2⟩
  · exact m h
end
/-- The state within the round. -/
structure M4 (w0 w : World) (base gx : Nat) (vq vt vn vf : Value) (k s0 s1 s2 s3 : Nat) (p0 q0 p1 q1 p2 q2 p3 q3 : Value) : Prop where
  head : Blk w gx 97 [vq, vt, vn, vf]
  f0 : St Rq.kd 60 base w vq (List.replicate k Rq.nil) Rq.nil s0 p0 q0
  f1 : St Kd.bool 4 base w vt (List.replicate k false) false s1 p1 q1
  f2 : St (Kd.int .u64) 28 base w vn (List.replicate k (0 : Int)) 0 s2 p2 q2
  f3 : St (Kd.int .i64) 3 base w vf (upTo k) k s3 p3 q3
  bel : Below base w0 w
  sz : base ≤ w.heap.size
section
variable {w0 w w1 : World} {base gx k s0 s1 s2 s3 : Nat} {vq vt vn vf p0 q0 p1 q1 p2 q2 p3 q3 p q : Value}
theorem M4.cells (h : M4 w0 w base gx vq vt vn vf k s0 s1 s2 s3 p0 q0 p1 q1 p2 q2 p3 q3) : w.cell? ⟨gx, 0, none⟩ = some vq ∧ w.cell? ⟨gx, 1, none⟩ = some vt ∧ w.cell? ⟨gx, 2, none⟩ = some vn ∧ w.cell? ⟨gx, 3, none⟩ = some vf := ⟨h.head.cell 0 rfl, h.head.cell 1 rfl, h.head.cell 2 rfl, h.head.cell 3 rfl⟩
theorem notDue {M : List Nat} {listed : Array Bool} {X : Prop} (h : M.all (fun m => listed.getD m true) = true) : Due M listed → X := fun ⟨m, hm, hl⟩ => by
  have := List.all_eq_true.1 h m hm
  rw [hl] at this
  cases this
theorem M4.lit0 (h : M4 w0 w base gx vq vt vn vf k 0 s1 s2 s3 p0 q0 p1 q1 p2 q2 p3 q3) (hR : Rq.kd.R 60 w1 base (fun _ => True) p [Rq.nil]) (hB : Below base w0 w1) (hg : w.grownBy w1 none) : M4 w0 w1 base gx vq vt vn vf k 1 s1 s2 s3 p q0 p1 q1 p2 q2 p3 q3 :=
  ⟨blk_grown h.head hg (fun e => by cases e), ⟨(h.f0.none_ hg : _), hR⟩, h.f1.none_ hg, h.f2.none_ hg, h.f3.none_ hg, hB, Nat.le_trans h.sz hg.size⟩
theorem M4.app0 (h : M4 w0 w base gx vq vt vn vf k 1 s1 s2 s3 p0 q0 p1 q1 p2 q2 p3 q3) (hR : Rq.kd.R 60 w1 base (fun _ => True) q ((List.replicate k Rq.nil) ++ [Rq.nil])) (hB : Below base w0 w1) (hg : w.grownBy w1 vq.ownBlock) : M4 w0 w1 base gx vq vt vn vf k 2 s1 s2 s3 p0 q p1 q1 p2 q2 p3 q3 := by
  have hv : Rq.kd.R 60 w base (fun _ => True) vq (List.replicate k Rq.nil) := h.f0.1
  exact ⟨h.head.grown hv (by decide) hg, hR, h.f1.over rfl hv (by decide) hg, h.f2.over rfl hv (by decide) hg, h.f3.over rfl hv (by decide) hg, hB, Nat.le_trans h.sz hg.size⟩
theorem M4.lit1 (h : M4 w0 w base gx vq vt vn vf k s0 0 s2 s3 p0 q0 p1 q1 p2 q2 p3 q3) (hR : Kd.bool.R 4 w1 base (fun _ => True) p [false]) (hB : Below base w0 w1) (hg : w.grownBy w1 none) : M4 w0 w1 base gx vq vt vn vf k s0 1 s2 s3 p0 q0 p q1 p2 q2 p3 q3 :=
  ⟨blk_grown h.head hg (fun e => by cases e), h.f0.none_ hg, ⟨(h.f1.none_ hg : _), hR⟩, h.f2.none_ hg, h.f3.none_ hg, hB, Nat.le_trans h.sz hg.size⟩
theorem M4.app1 (h : M4 w0 w base gx vq vt vn vf k s0 1 s2 s3 p0 q0 p1 q1 p2 q2 p3 q3) (hR : Kd.bool.R 4 w1 base (fun _ => True) q ((List.replicate k false) ++ [false])) (hB : Below base w0 w1) (hg : w.grownBy w1 vt.ownBlock) : M4 w0 w1 base gx vq vt vn vf k s0 2 s2 s3 p0 q0 p1 q p2 q2 p3 q3 := by
  have hv : Kd.bool.R 4 w base (fun _ => True) vt (List.replicate k false) := h.f1.1
  exact ⟨h.head.grown hv (by decide) hg, h.f0.over rfl hv (by decide) hg, hR, h.f2.over rfl hv (by decide) hg, h.f3.over rfl hv (by decide) hg, hB, Nat.le_trans h.sz hg.size⟩
theorem M4.lit2 (h : M4 w0 w base gx vq vt vn vf k s0 s1 0 s3 p0 q0 p1 q1 p2 q2 p3 q3) (hR : (Kd.int .u64).R 28 w1 base (fun _ => True) p [(0 : Int)]) (hB : Below base w0 w1) (hg : w.grownBy w1 none) : M4 w0 w1 base gx vq vt vn vf k s0 s1 1 s3 p0 q0 p1 q1 p q2 p3 q3 :=
  ⟨blk_grown h.head hg (fun e => by cases e), h.f0.none_ hg, h.f1.none_ hg, ⟨(h.f2.none_ hg : _), hR⟩, h.f3.none_ hg, hB, Nat.le_trans h.sz hg.size⟩
theorem M4.app2 (h : M4 w0 w base gx vq vt vn vf k s0 s1 1 s3 p0 q0 p1 q1 p2 q2 p3 q3) (hR : (Kd.int .u64).R 28 w1 base (fun _ => True) q ((List.replicate k (0 : Int)) ++ [(0 : Int)])) (hB : Below base w0 w1) (hg : w.grownBy w1 vn.ownBlock) : M4 w0 w1 base gx vq vt vn vf k s0 s1 2 s3 p0 q0 p1 q1 p2 q p3 q3 := by
  have hv : (Kd.int .u64).R 28 w base (fun _ => True) vn (List.replicate k (0 : Int)) := h.f2.1
  exact ⟨h.head.grown hv (by decide) hg, h.f0.over rfl hv (by decide) hg, h.f1.over rfl hv (by decide) hg, hR, h.f3.over rfl hv (by decide) hg, hB, Nat.le_trans h.sz hg.size⟩
theorem M4.lit3 (h : M4 w0 w base gx vq vt vn vf k s0 s1 s2 0 p0 q0 p1 q1 p2 q2 p3 q3) (hR : (Kd.int .i64).R 3 w1 base (fun _ => True) p [(k : Int)]) (hB : Below base w0 w1) (hg : w.grownBy w1 none) : M4 w0 w1 base gx vq vt vn vf k s0 s1 s2 1 p0 q0 p1 q1 p2 q2 p q3 :=
  ⟨blk_grown h.head hg (fun e => by cases e), h.f0.none_ hg, h.f1.none_ hg, h.f2.none_ hg, ⟨(h.f3.none_ hg : _), hR⟩, hB, Nat.le_trans h.sz hg.size⟩
theorem M4.app3 (h : M4 w0 w base gx vq vt vn vf k s0 s1 s2 1 p0 q0 p1 q1 p2 q2 p3 q3) (hR : (Kd.int .i64).R 3 w1 base (fun _ => True) q ((upTo k) ++ [(k : Int)])) (hB : Below base w0 w1) (hg : w.grownBy w1 vf.ownBlock) : M4 w0 w1 base gx vq vt vn vf k s0 s1 s2 2 p0 q0 p1 q1 p2 q2 p3 q := by
  have hv : (Kd.int .i64).R 3 w base (fun _ => True) vf (upTo k) := h.f3.1
  exact ⟨h.head.grown hv (by decide) hg, h.f0.over rfl hv (by decide) hg, h.f1.over rfl hv (by decide) hg, h.f2.over rfl hv (by decide) hg, hR, hB, Nat.le_trans h.sz hg.size⟩
theorem M4.done (h : M4 w0 w base gx vq vt vn vf k 2 2 2 2 p0 q0 p1 q1 p2 q2 p3 q3) (hg : base ≤ gx) :
    NS ((((w.setCell ⟨gx, 0, none⟩ q0).setCell ⟨gx, 1, none⟩ q1).setCell ⟨gx, 2, none⟩ q2).setCell ⟨gx, 3, none⟩ q3) base gx q0 q1 q2 q3 (k + 1) ∧ Below base w0 ((((w.setCell ⟨gx, 0, none⟩ q0).setCell ⟨gx, 1, none⟩ q1).setCell ⟨gx, 2, none⟩ q2).setCell ⟨gx, 3, none⟩ q3) := by
  have f0 : Rq.kd.R 60 w base (fun _ => True) q0 (List.replicate k Rq.nil ++ [Rq.nil]) := h.f0
  have f1 : Kd.bool.R 4 w base (fun _ => True) q1 (List.replicate k false ++ [false]) := h.f1
  have f2 : (Kd.int .u64).R 28 w base (fun _ => True) q2 (List.replicate k (0 : Int) ++ [0]) := h.f2
  have f3 : (Kd.int .i64).R 3 w base (fun _ => True) q3 (upTo k ++ [(k : Int)]) := h.f3
  rw [← List.replicate_succ'] at f0 f1 f2
  rw [← upTo_succ] at f3
  have kp : Kp [gx] w ((((w.setCell ⟨gx, 0, none⟩ q0).setCell ⟨gx, 1, none⟩ q1).setCell ⟨gx, 2, none⟩ q2).setCell ⟨gx, 3, none⟩ q3) := ((((Kp.refl [gx] w).set (.inl (by simp)) _).set (.inl (by simp)) _).set (.inl (by simp)) _).set (.inl (by simp)) _
  have hS : ∀ T, T ≠ 97 → ∀ b ∈ [gx], ∃ t l, Blk w b t l ∧ t ≠ T := fun T hT b hb => by
    rw [List.mem_singleton] at hb
    subst hb
    exact ⟨_, _, h.head, fun e => hT e.symm⟩
  refine ⟨⟨?_, R_kp rfl f0 kp (hS _ (by decide)), R_kp rfl f1 kp (hS _ (by decide)), R_kp rfl f2 kp (hS _ (by decide)), R_kp rfl f3 kp (hS _ (by decide))⟩, Kp.to_below h.bel h.sz kp (by intro b hb; rw [List.mem_singleton] at hb; omega)⟩
  exact (((h.head.put 0 q0 rfl).put 1 q1 rfl).put 2 q2 rfl).put 3 q3 rfl
end
theorem reps_fk {α : Type} {f : α → List Value} {k : Nat} {hk : ∀ x, (f x).length = k} {h1 : ∀ x, ∀ u ∈ f x, u.oneCell' = true} (w : World) (b : Nat) (x : α) : Reps ((fk f k hk h1).M w b (fun _ => True)) k [x] (f x) :=
  ⟨by rw [hk]; simp, fun j p hj => by
    have hj0 : j = 0 := by have := (List.getElem?_eq_some_iff.1 hj).1; simp at this; exact this
    subst hj0
    have hp : x = p := by simpa using hj
    subst hp
    show (f x |>.drop (0 * k)).take k = f x
    rw [Nat.zero_mul, List.drop_zero, List.take_of_length_le (by rw [hk]; exact Nat.le_refl _)]⟩
set_option maxHeartbeats 80000000 in
set_option maxRecDepth 100000 in
theorem rnew_ok (n : Nat) (hn : n ≤ 1024) (w : World) :
    Calls Try.prog 42 #[.int .i64 n] w fun e w' => ∃ gx vq vt vn vf, e = .returned (.pointer (some ⟨gx, 0, none⟩)) ∧ NS w' w.heap.size gx vq vt vn vf n ∧ w.heap.size ≤ gx ∧ Below w.heap.size w w' := by
  have hbox : Blk (w.alloc (.cells #[.slice none 0 0, .slice none 0 0, .slice none 0 0, .slice none 0 0] 97)) w.heap.size 97 [.slice none 0 0, .slice none 0 0, .slice none 0 0, .slice none 0 0] := Blk.new w _ _
  have HX := Aside0.mk (And.intro (NS.mk (base := w.heap.size) (k := 0) hbox (Kd.R_nil _ _ _ _ _) (Kd.R_nil _ _ _ _ _) (Kd.R_nil _ _ _ _ _) (Kd.R_nil _ _ _ _ _)) (below_alloc (Below.refl w.heap.size w) (.cells #[.slice none 0 0, .slice none 0 0, .slice none 0 0, .slice none 0 0] 97)))
  clear hbox
  go_enter Try.func42, Try.ntmps42
  go_wp2_with (fail)
  go_loopw [4] (fun i wr => ∃ (k : Nat) (vq vt vn vf : Value), k ≤ n ∧ i = .int .i64 k ∧ NS wr w.heap.size w.heap.size vq vt vn vf k ∧ Below w.heap.size w wr) (fun i _ => n - (intOf i).toNat)
  case atStart => exact ⟨0, _, _, _, _, Nat.zero_le _, rfl, HX.out.1, HX.out.2⟩
  case round =>
    clear HX
    obtain ⟨k, vq, vt, vn, vf, hk, rfl, hS, hB⟩ := hrel
    obtain ⟨N, hN⟩ : ∃ N, N = w.heap.size := ⟨_, rfl⟩
    rw [← hN] at hS hB ⊢
    by_cases hlt : k < n
    · have hlt' : (k : Int) < (n : Int) := by omega
      have k1 : (k : Int) + 1 ≤ 1024 := by omega
      have c0 := hS.head.cell 0 rfl
      have c1 := hS.head.cell 1 rfl
      have c2 := hS.head.cell 2 rfl
      have c3 := hS.head.cell 3 rfl
      obtain ⟨Aq, cq, rfl⟩ := Kd.R_slice hS.rq
      obtain ⟨At, ct, rfl⟩ := Kd.R_slice hS.tk
      obtain ⟨An, cn, rfl⟩ := Kd.R_slice hS.tn
      obtain ⟨Af, cf, rfl⟩ := Kd.R_slice hS.fr
      simp only [List.length_replicate, upTo_len] at c0 c1 c2 c3 hS
      have hsz := hB.size
      have HS := Aside0.mk (And.intro hS hN)
      have HM := Aside0.mk (M4.mk (k := k) (s0 := 0) (s1 := 0) (s2 := 0) (s3 := 0) (p0 := undef) (q0 := undef) (p1 := undef) (q1 := undef) (p2 := undef) (q2 := undef) (p3 := undef) (q3 := undef) hS.head hS.rq hS.tk hS.tn hS.fr hB (by rw [← hN] at hsz; exact hsz))
      have HB : Aside0 (N ≤ N) := ⟨Nat.le_refl _⟩
      clear hS hB hN hsz
      go_upto_region 5 with (fail)
      refine wp_region_noPanic ?_
      refine wp_region_M (S := fun w' => w'.cell? ⟨N, 0, none⟩ = some (.slice Aq k cq) ∧ w'.cell? ⟨N, 1, none⟩ = some (.slice At k ct) ∧ w'.cell? ⟨N, 2, none⟩ = some (.slice An k cn) ∧ w'.cell? ⟨N, 3, none⟩ = some (.slice Af k cf)) (M := [10, 16, 22, 29]) (by kernel_rfl) ?_
      have hS0 : wr.drew.cell? ⟨N, 0, none⟩ = some (.slice Aq k cq) ∧ wr.drew.cell? ⟨N, 1, none⟩ = some (.slice At k ct) ∧ wr.drew.cell? ⟨N, 2, none⟩ = some (.slice An k cn) ∧ wr.drew.cell? ⟨N, 3, none⟩ = some (.slice Af k cf) := ⟨c0, c1, c2, c3⟩
      have hM0 : M4 w wr.drew N N (.slice Aq k cq) (.slice At k ct) (.slice An k cn) (.slice Af k cf) k 0 0 0 0 undef undef undef undef undef undef undef undef := ⟨HM.out.head.drew_, Kd.R_drew HM.out.f0, Kd.R_drew HM.out.f1, Kd.R_drew HM.out.f2, Kd.R_drew HM.out.f3, below_drew HM.out.bel, HM.out.sz⟩
      have HM0 := Aside0.mk hM0
      clear c0 c1 c2 c3 HM hM0
      generalize wr.drew = U at *
      refine wpM_take0 (i := 0) (oi := ⟨some 12, _, _, _, _, _⟩) (v := ?_) rfl (by kernel_rfl) (by kernel_rfl) (by kernel_rfl) (by kernel_rfl) (fun _ _ _ h => h) (Or.inl ⟨by rfl, ?_⟩) (fun _ => hS0) ?_
      rotate_left
      · (intro W hSw; go_simp; (try with_reducible rfl))
      simp only [Act.put, List.setIfInBounds_toArray, List.set_cons_zero, List.set_cons_succ]
      refine wpM_take0 (i := 1) (oi := ⟨some 13, _, _, _, _, _⟩) (v := ?_) rfl (by kernel_rfl) (by kernel_rfl) (by kernel_rfl) (by kernel_rfl) (fun _ _ _ h => h) (Or.inl ⟨by rfl, ?_⟩) (fun _ => hS0) ?_
      rotate_left
      · (intro W hSw; go_simp; (try with_reducible rfl))
      simp only [Act.put, List.setIfInBounds_toArray, List.set_cons_zero, List.set_cons_succ]
      refine wpM_take0 (i := 2) (oi := ⟨some 14, _, _, _, _, _⟩) (v := ?_) rfl (by kernel_rfl) (by kernel_rfl) (by kernel_rfl) (by kernel_rfl) (fun _ _ _ h => h) (Or.inl ⟨by rfl, ?_⟩) (fun _ => hS0) ?_
      rotate_left
      · (intro W hSw; go_simp; (try with_reducible rfl))
      simp only [Act.put, List.setIfInBounds_toArray, List.set_cons_zero, List.set_cons_succ]
      refine wpM_take0 (i := 3) (oi := ⟨some 15, _, _, _, _, _⟩) (v := ?_) rfl (by kernel_rfl) (by kernel_rfl) (by kernel_rfl) (by kernel_rfl) (fun _ _ _ h => h) (Or.inl ⟨by rfl, ?_⟩) (fun _ => hS0) ?_
      rotate_left
      · (intro W hSw; go_simp; (try with_reducible rfl))
      simp only [Act.put, List.setIfInBounds_toArray, List.set_cons_zero, List.set_cons_succ]
      refine wpM_take0 (i := 4) (oi := ⟨some 16, _, _, _, _, _⟩) (v := ?_) rfl (by kernel_rfl) (by kernel_rfl) (by kernel_rfl) (by kernel_rfl) (fun _ _ _ h => h) (Or.inl ⟨by rfl, ?_⟩) (fun _ => hS0) ?_
      rotate_left
      · (intro W hSw; go_simp; (try with_reducible rfl))
      simp only [Act.put, List.setIfInBounds_toArray, List.set_cons_zero, List.set_cons_succ]
      refine wpM_take0 (i := 5) (oi := ⟨some 17, _, _, _, _, _⟩) (v := ?_) rfl (by kernel_rfl) (by kernel_rfl) (by kernel_rfl) (by kernel_rfl) (fun _ _ _ h => h) (Or.inl ⟨by rfl, ?_⟩) (fun _ => hS0) ?_
      rotate_left
      · (intro W hSw; go_simp; (try with_reducible rfl))
      simp only [Act.put, List.setIfInBounds_toArray, List.set_cons_zero, List.set_cons_succ]
      refine wpM_take0 (i := 6) (oi := ⟨some 18, _, _, _, _, _⟩) (v := ?_) rfl (by kernel_rfl) (by kernel_rfl) (by kernel_rfl) (by kernel_rfl) (fun _ _ _ h => h) (Or.inl ⟨by rfl, ?_⟩) (fun _ => hS0) ?_
      rotate_left
      · (intro W hSw; go_simp; (try with_reducible rfl))
      simp only [Act.put, List.setIfInBounds_toArray, List.set_cons_zero, List.set_cons_succ]
      refine wpM_take (i := 7) (oi := ⟨some 19, _, _, _, _, _⟩) (m := 10) (v := ?_) rfl rfl (by kernel_rfl) (by kernel_rfl) (by kernel_rfl) (by kernel_rfl) (by kernel_rfl) (by kernel_rfl) (fun _ _ _ h => h) (Or.inl ⟨by rfl, ?_⟩) hS0 ?_
      rotate_left
      · (intro W hSw; obtain ⟨hs0, hs1, hs2, hs3⟩ := hSw; go_simp; (try with_reducible rfl))
      simp only [Act.put, List.setIfInBounds_toArray, List.set_cons_zero, List.set_cons_succ]
      refine wpM_take0 (i := 8) (oi := ⟨some 20, _, _, _, _, _⟩) (v := ?_) rfl (by kernel_rfl) (by kernel_rfl) (by kernel_rfl) (by kernel_rfl) (fun _ _ _ h => h) (Or.inl ⟨by rfl, ?_⟩) (fun _ => hS0) ?_
      rotate_left
      · (intro W hSw; go_simp; (try with_reducible rfl))
      simp only [Act.put, List.setIfInBounds_toArray, List.set_cons_zero, List.set_cons_succ]
      refine wpM_take0 (i := 11) (oi := ⟨some 23, _, _, _, _, _⟩) (v := ?_) rfl (by kernel_rfl) (by kernel_rfl) (by kernel_rfl) (by kernel_rfl) (fun _ _ _ h => h) (Or.inl ⟨by rfl, ?_⟩) (fun _ => hS0) ?_
      rotate_left
      · (intro W hSw; go_simp; (try with_reducible rfl))
      simp only [Act.put, List.setIfInBounds_toArray, List.set_cons_zero, List.set_cons_succ]
      refine wpM_take0 (i := 12) (oi := ⟨some 24, _, _, _, _, _⟩) (v := ?_) rfl (by kernel_rfl) (by kernel_rfl) (by kernel_rfl) (by kernel_rfl) (fun _ _ _ h => h) (Or.inl ⟨by rfl, ?_⟩) (fun _ => hS0) ?_
      rotate_left
      · (intro W hSw; go_simp; (try with_reducible rfl))
      simp only [Act.put, List.setIfInBounds_toArray, List.set_cons_zero, List.set_cons_succ]
      refine wpM_take0 (i := 13) (oi := ⟨some 25, _, _, _, _, _⟩) (v := ?_) rfl (by kernel_rfl) (by kernel_rfl) (by kernel_rfl) (by kernel_rfl) (fun _ _ _ h => h) (Or.inl ⟨by rfl, ?_⟩) (fun _ => hS0) ?_
      rotate_left
      · (intro W hSw; go_simp; (try with_reducible rfl))
      simp only [Act.put, List.setIfInBounds_toArray, List.set_cons_zero, List.set_cons_succ]
      refine wpM_take (i := 14) (oi := ⟨some 26, _, _, _, _, _⟩) (m := 16) (v := ?_) rfl rfl (by kernel_rfl) (by kernel_rfl) (by kernel_rfl) (by kernel_rfl) (by kernel_rfl) (by kernel_rfl) (fun _ _ _ h => h) (Or.inl ⟨by rfl, ?_⟩) hS0 ?_
      rotate_left
      · (intro W hSw; obtain ⟨hs0, hs1, hs2, hs3⟩ := hSw; go_simp; (try with_reducible rfl))
      simp only [Act.put, List.setIfInBounds_toArray, List.set_cons_zero, List.set_cons_succ]
      refine wpM_take0 (i := 17) (oi := ⟨some 29, _, _, _, _, _⟩) (v := ?_) rfl (by kernel_rfl) (by kernel_rfl) (by kernel_rfl) (by kernel_rfl) (fun _ _ _ h => h) (Or.inl ⟨by rfl, ?_⟩) (fun _ => hS0) ?_
      rotate_left
      · (intro W hSw; go_simp; (try with_reducible rfl))
      simp only [Act.put, List.setIfInBounds_toArray, List.set_cons_zero, List.set_cons_succ]
      refine wpM_take0 (i := 18) (oi := ⟨some 30, _, _, _, _, _⟩) (v := ?_) rfl (by kernel_rfl) (by kernel_rfl) (by kernel_rfl) (by kernel_rfl) (fun _ _ _ h => h) (Or.inl ⟨by rfl, ?_⟩) (fun _ => hS0) ?_
      rotate_left
      · (intro W hSw; go_simp; (try with_reducible rfl))
      simp only [Act.put, List.setIfInBounds_toArray, List.set_cons_zero, List.set_cons_succ]
      refine wpM_take0 (i := 19) (oi := ⟨some 31, _, _, _, _, _⟩) (v := ?_) rfl (by kernel_rfl) (by kernel_rfl) (by kernel_rfl) (by kernel_rfl) (fun _ _ _ h => h) (Or.inl ⟨by rfl, ?_⟩) (fun _ => hS0) ?_
      rotate_left
      · (intro W hSw; go_simp; (try with_reducible rfl))
      simp only [Act.put, List.setIfInBounds_toArray, List.set_cons_zero, List.set_cons_succ]
      refine wpM_take (i := 20) (oi := ⟨some 32, _, _, _, _, _⟩) (m := 22) (v := ?_) rfl rfl (by kernel_rfl) (by kernel_rfl) (by kernel_rfl) (by kernel_rfl) (by kernel_rfl) (by kernel_rfl) (fun _ _ _ h => h) (Or.inl ⟨by rfl, ?_⟩) hS0 ?_
      rotate_left
      · (intro W hSw; obtain ⟨hs0, hs1, hs2, hs3⟩ := hSw; go_simp; (try with_reducible rfl))
      simp only [Act.put, List.setIfInBounds_toArray, List.set_cons_zero, List.set_cons_succ]
      refine wpM_take0 (i := 23) (oi := ⟨some 35, _, _, _, _, _⟩) (v := ?_) rfl (by kernel_rfl) (by kernel_rfl) (by kernel_rfl) (by kernel_rfl) (fun _ _ _ h => h) (Or.inl ⟨by rfl, ?_⟩) (fun _ => hS0) ?_
      rotate_left
      · (intro W hSw; go_simp; (try with_reducible rfl))
      simp only [Act.put, List.setIfInBounds_toArray, List.set_cons_zero, List.set_cons_succ]
      refine wpM_take0 (i := 24) (oi := ⟨some 36, _, _, _, _, _⟩) (v := ?_) rfl (by kernel_rfl) (by kernel_rfl) (by kernel_rfl) (by kernel_rfl) (fun _ _ _ h => h) (Or.inl ⟨by rfl, ?_⟩) (fun _ => hS0) ?_
      rotate_left
      · (intro W hSw; go_simp; (try with_reducible rfl))
      simp only [Act.put, List.setIfInBounds_toArray, List.set_cons_zero, List.set_cons_succ]
      refine wpM_take0 (i := 25) (oi := ⟨some 37, _, _, _, _, _⟩) (v := ?_) rfl (by kernel_rfl) (by kernel_rfl) (by kernel_rfl) (by kernel_rfl) (fun _ _ _ h => h) (Or.inl ⟨by rfl, ?_⟩) (fun _ => hS0) ?_
      rotate_left
      · (intro W hSw; go_simp; (try with_reducible rfl))
      simp only [Act.put, List.setIfInBounds_toArray, List.set_cons_zero, List.set_cons_succ]
      refine wpM_take (i := 26) (oi := ⟨some 38, _, _, _, _, _⟩) (m := 29) (v := ?_) rfl rfl (by kernel_rfl) (by kernel_rfl) (by kernel_rfl) (by kernel_rfl) (by kernel_rfl) (by kernel_rfl) (fun _ _ _ h => h) (Or.inl ⟨by rfl, ?_⟩) hS0 ?_
      rotate_left
      · (intro W hSw; obtain ⟨hs0, hs1, hs2, hs3⟩ := hSw; go_simp; (try with_reducible rfl))
      simp only [Act.put, List.setIfInBounds_toArray, List.set_cons_zero, List.set_cons_succ]
      refine wpM_take0 (i := 27) (oi := ⟨some 39, _, _, _, _, _⟩) (v := ?_) rfl (by kernel_rfl) (by kernel_rfl) (by kernel_rfl) (by kernel_rfl) (fun _ _ _ h => h) (Or.inl ⟨by rfl, ?_⟩) (fun _ => hS0) ?_
      rotate_left
      · (intro W hSw; go_simp; (try with_reducible rfl))
      simp only [Act.put, List.setIfInBounds_toArray, List.set_cons_zero, List.set_cons_succ]
      refine name_M (fun Wp A hW hA => ?_)
      have HW := Aside0.mk hW
      have HA := Aside0.mk hA
      clear hW hA hS0
      have G2222 : ∀ (p0 q0 p1 q1 p2 q2 p3 q3 : Value) (V : World), M4 w V N N (.slice Aq k cq) (.slice At k ct) (.slice An k cn) (.slice Af k cf) k 2 2 2 2 p0 q0 p1 q1 p2 q2 p3 q3 → Wp 12 #[true, true, true, true, true, true, true, true, true, true, true, true, true, true, true, true, true, true, true, true, true, true, true, true, true, true, true, true, true, true, false, false, false, false, false, false, false, false, false, false, false, false] ((((((((A.put (some 21) p0).put (some 22) q0).put (some 27) p1).put (some 28) q1).put (some 33) p2).put (some 34) q2).put (some 40) p3).put (some 41) q3) V := by
        intro p0 q0 p1 q1 p2 q2 p3 q3 V hM
        have g0 : Rq.kd.R 60 V N (fun _ => True) q0 ((List.replicate k Rq.nil) ++ [Rq.nil]) := hM.f0
        have g1 : Kd.bool.R 4 V N (fun _ => True) q1 ((List.replicate k false) ++ [false]) := hM.f1
        have g2 : (Kd.int .u64).R 28 V N (fun _ => True) q2 ((List.replicate k (0 : Int)) ++ [(0 : Int)]) := hM.f2
        have g3 : (Kd.int .i64).R 3 V N (fun _ => True) q3 ((upTo k) ++ [(k : Int)]) := hM.f3
        obtain ⟨Bq, bq, rfl⟩ := Kd.R_slice g0
        obtain ⟨Bt, bt, rfl⟩ := Kd.R_slice g1
        obtain ⟨Bn, bn, rfl⟩ := Kd.R_slice g2
        obtain ⟨Bf, bf, rfl⟩ := Kd.R_slice g3
        have hh := hM.head
        have e0 := hh.cell 0 rfl
        have e1 := hh.cell 1 rfl
        have e2 := hh.cell 2 rfl
        have e3 := hh.cell 3 rfl
        have zz : ∀ j, V.frozen? ⟨N, j, none⟩ = false := fun j => hh.frozen j
        have HH := Aside0.mk hM
        clear hM g0 g1 g2 g3 hh
        rw [HW.out, HA.out]
        simp only [Act.put, List.setIfInBounds_toArray, List.set_cons_zero, List.set_cons_succ]
        refine wpM_take0 (i := 30) (oi := ⟨some 42, _, _, _, _, _⟩) (v := ?_) rfl (by kernel_rfl) (by kernel_rfl) (by kernel_rfl) (by kernel_rfl) (fun _ _ _ h => h) (Or.inl ⟨by rfl, ?_⟩) (notDue (by rfl)) ?_
        rotate_left
        · (intro W hSw; go_simp; (try with_reducible rfl))
        simp only [Act.put, List.setIfInBounds_toArray, List.set_cons_zero, List.set_cons_succ]
        refine wpM_take0 (i := 31) (oi := ⟨some 43, _, _, _, _, _⟩) (v := ?_) rfl (by kernel_rfl) (by kernel_rfl) (by kernel_rfl) (by kernel_rfl) (fun _ _ _ h => h) (Or.inl ⟨by rfl, ?_⟩) (notDue (by rfl)) ?_
        rotate_left
        · (intro W hSw; go_simp; (try with_reducible rfl))
        simp only [Act.put, List.setIfInBounds_toArray, List.set_cons_zero, List.set_cons_succ]
        refine wpM_ready (rs := [32]) (by kernel_rfl) (by simp) ?_
        refine AllM.cons (o := ⟨none, _, _, _, _, _⟩) rfl (fun K hK => ?_) AllM.nil
        go_simp
        refine hK.out _ _ (notDue (by rfl)) ?_
        clear hK K
        simp only [Act.put, List.setIfInBounds_toArray, List.set_cons_zero, List.set_cons_succ]
        refine wpM_take0 (i := 33) (oi := ⟨some 44, _, _, _, _, _⟩) (v := ?_) rfl (by kernel_rfl) (by kernel_rfl) (by kernel_rfl) (by kernel_rfl) (fun _ _ _ h => h) (Or.inl ⟨by rfl, ?_⟩) (notDue (by rfl)) ?_
        rotate_left
        · (intro W hSw; go_simp; (try with_reducible rfl))
        simp only [Act.put, List.setIfInBounds_toArray, List.set_cons_zero, List.set_cons_succ]
        refine wpM_take0 (i := 34) (oi := ⟨some 45, _, _, _, _, _⟩) (v := ?_) rfl (by kernel_rfl) (by kernel_rfl) (by kernel_rfl) (by kernel_rfl) (fun _ _ _ h => h) (Or.inl ⟨by rfl, ?_⟩) (notDue (by rfl)) ?_
        rotate_left
        · (intro W hSw; go_simp; (try with_reducible rfl))
        simp only [Act.put, List.setIfInBounds_toArray, List.set_cons_zero, List.set_cons_succ]
        refine wpM_ready (rs := [35]) (by kernel_rfl) (by simp) ?_
        refine AllM.cons (o := ⟨none, _, _, _, _, _⟩) rfl (fun K hK => ?_) AllM.nil
        go_simp
        refine hK.out _ _ (notDue (by rfl)) ?_
        clear hK K
        simp only [Act.put, List.setIfInBounds_toArray, List.set_cons_zero, List.set_cons_succ]
        refine wpM_take0 (i := 36) (oi := ⟨some 46, _, _, _, _, _⟩) (v := ?_) rfl (by kernel_rfl) (by kernel_rfl) (by kernel_rfl) (by kernel_rfl) (fun _ _ _ h => h) (Or.inl ⟨by rfl, ?_⟩) (notDue (by rfl)) ?_
        rotate_left
        · (intro W hSw; go_simp; (try with_reducible rfl))
        simp only [Act.put, List.setIfInBounds_toArray, List.set_cons_zero, List.set_cons_succ]
        refine wpM_take0 (i := 37) (oi := ⟨some 47, _, _, _, _, _⟩) (v := ?_) rfl (by kernel_rfl) (by kernel_rfl) (by kernel_rfl) (by kernel_rfl) (fun _ _ _ h => h) (Or.inl ⟨by rfl, ?_⟩) (notDue (by rfl)) ?_
        rotate_left
        · (intro W hSw; go_simp; (try with_reducible rfl))
        simp only [Act.put, List.setIfInBounds_toArray, List.set_cons_zero, List.set_cons_succ]
        refine wpM_ready (rs := [38]) (by kernel_rfl) (by simp) ?_
        refine AllM.cons (o := ⟨none, _, _, _, _, _⟩) rfl (fun K hK => ?_) AllM.nil
        go_simp
        refine hK.out _ _ (notDue (by rfl)) ?_
        clear hK K
        simp only [Act.put, List.setIfInBounds_toArray, List.set_cons_zero, List.set_cons_succ]
        refine wpM_take0 (i := 39) (oi := ⟨some 48, _, _, _, _, _⟩) (v := ?_) rfl (by kernel_rfl) (by kernel_rfl) (by kernel_rfl) (by kernel_rfl) (fun _ _ _ h => h) (Or.inl ⟨by rfl, ?_⟩) (notDue (by rfl)) ?_
        rotate_left
        · (intro W hSw; go_simp; (try with_reducible rfl))
        simp only [Act.put, List.setIfInBounds_toArray, List.set_cons_zero, List.set_cons_succ]
        refine wpM_take0 (i := 40) (oi := ⟨some 49, _, _, _, _, _⟩) (v := ?_) rfl (by kernel_rfl) (by kernel_rfl) (by kernel_rfl) (by kernel_rfl) (fun _ _ _ h => h) (Or.inl ⟨by rfl, ?_⟩) (notDue (by rfl)) ?_
        rotate_left
        · (intro W hSw; go_simp; (try with_reducible rfl))
        simp only [Act.put, List.setIfInBounds_toArray, List.set_cons_zero, List.set_cons_succ]
        refine wpM_ready (rs := [41]) (by kernel_rfl) (by simp) ?_
        refine AllM.cons (o := ⟨none, _, _, _, _, _⟩) rfl (fun K hK => ?_) AllM.nil
        go_simp
        refine hK.out _ _ (notDue (by rfl)) ?_
        clear hK K
        simp only [Act.put, List.setIfInBounds_toArray, List.set_cons_zero, List.set_cons_succ]
        refine wpM_done (by kernel_rfl) ?_ _
        refine NoPanic.normal ?_
        have hd := HH.out.done HB.out
        simp only [List.length_append, List.length_replicate, List.length_singleton] at hd
        have HD := Aside0.mk hd
        clear hd HH e0 e1 e2 e3 zz
        go_wp2_with (fail)
        exact ⟨⟨k + 1, _, _, _, _, by omega, by go_num, HD.out.1, HD.out.2⟩, by simp [intOf]; omega⟩
      have G2221 : ∀ (p0 q0 p1 q1 p2 q2 p3 q3 : Value) (V : World), M4 w V N N (.slice Aq k cq) (.slice At k ct) (.slice An k cn) (.slice Af k cf) k 2 2 2 1 p0 q0 p1 q1 p2 q2 p3 q3 → Wp 13 #[true, true, true, true, true, true, true, true, true, true, true, true, true, true, true, true, true, true, true, true, true, true, true, true, true, true, true, true, true, false, false, false, false, false, false, false, false, false, false, false, false, false] ((((((((A.put (some 21) p0).put (some 22) q0).put (some 27) p1).put (some 28) q1).put (some 33) p2).put (some 34) q2).put (some 40) p3).put (some 41) q3) V := by
        intro p0 q0 p1 q1 p2 q2 p3 q3 V hM
        have hRo : (Kd.int .i64).R 3 V N (fun _ => True) (.slice Af k cf) (upTo k) := hM.f3.1
        have hRp : (Kd.int .i64).R 3 V N (fun _ => True) p3 [(k : Int)] := hM.f3.2
        obtain ⟨A1, c1, hp⟩ := Kd.R_slice hRp
        subst hp
        have hC1 := (Kd.R_reads' hRp).2.2
        rw [HW.out, HA.out]
        simp only [Act.put, List.setIfInBounds_toArray, List.set_cons_zero, List.set_cons_succ]
        refine wpM_ready (rs := [29]) (by kernel_rfl) (by simp) ?_
        refine AllM.cons (o := ⟨some 41, _, _, _, _, _⟩) rfl (fun K hK => ?_) ?_
        · refine Kd.R_append_rows_step (Kd.int .i64) (Rr := (Kd.int .i64).K V) (w0 := w) N (by rfl) (.tmp 38) (.tmp 40) 89 3 (.int .i64 0) 8 (by rfl) Try.underlying89 (by kernel_rfl) (by rfl) (by decide) (by omega) (.slice Af k cf) (upTo k) [(k : Int)] A1 1 c1 (fun _ => True) (fun _ => False) (by kernel_rfl) (by kernel_rfl) hRo hC1 (fun _ _ h => h) (fun _ hk => hk.elim) (fun _ _ => trivial) hM.bel hM.sz (by simp only [List.length_replicate, upTo_len]; omega) ?_
          intro v1 V1 hR1 hB1 hg1 hat1
          have hM1 := hM.app3 hR1 hB1 hg1
          refine hK.out _ _ (fun _ => hM1.cells) ?_
          have hG := G2222 p0 q0 p1 q1 p2 q2 _ v1 V1 hM1
          rw [HW.out, HA.out] at hG
          simp only [Act.put, List.setIfInBounds_toArray, List.set_cons_zero, List.set_cons_succ] at hG
          simp only [Act.put, List.setIfInBounds_toArray, List.set_cons_zero, List.set_cons_succ]
          exact hG
        exact AllM.nil
      have G2211 : ∀ (p0 q0 p1 q1 p2 q2 p3 q3 : Value) (V : World), M4 w V N N (.slice Aq k cq) (.slice At k ct) (.slice An k cn) (.slice Af k cf) k 2 2 1 1 p0 q0 p1 q1 p2 q2 p3 q3 → Wp 14 #[true, true, true, true, true, true, true, true, true, true, true, true, true, true, true, true, true, true, true, true, true, true, false, true, true, true, true, true, true, false, false, false, false, false, false, false, false, false, false, false, false, false] ((((((((A.put (some 21) p0).put (some 22) q0).put (some 27) p1).put (some 28) q1).put (some 33) p2).put (some 34) q2).put (some 40) p3).put (some 41) q3) V := by
        intro p0 q0 p1 q1 p2 q2 p3 q3 V hM
        have hRo : (Kd.int .u64).R 28 V N (fun _ => True) (.slice An k cn) (List.replicate k (0 : Int)) := hM.f2.1
        have hRp : (Kd.int .u64).R 28 V N (fun _ => True) p2 [(0 : Int)] := hM.f2.2
        obtain ⟨A1, c1, hp⟩ := Kd.R_slice hRp
        subst hp
        have hC1 := (Kd.R_reads' hRp).2.2
        rw [HW.out, HA.out]
        simp only [Act.put, List.setIfInBounds_toArray, List.set_cons_zero, List.set_cons_succ]
        refine wpM_ready (rs := [22]) (by kernel_rfl) (by simp) ?_
        refine AllM.cons (o := ⟨some 34, _, _, _, _, _⟩) rfl (fun K hK => ?_) ?_
        · refine Kd.R_append_rows_step (Kd.int .u64) (Rr := (Kd.int .u64).K V) (w0 := w) N (by rfl) (.tmp 32) (.tmp 33) 50 28 (.int .u64 0) 8 (by rfl) Try.underlying50 (by kernel_rfl) (by rfl) (by decide) (by omega) (.slice An k cn) (List.replicate k (0 : Int)) [(0 : Int)] A1 1 c1 (fun _ => True) (fun _ => False) (by kernel_rfl) (by kernel_rfl) hRo hC1 (fun _ _ h => h) (fun _ hk => hk.elim) (fun _ _ => trivial) hM.bel hM.sz (by simp only [List.length_replicate, upTo_len]; omega) ?_
          intro v1 V1 hR1 hB1 hg1 hat1
          have hM1 := hM.app2 hR1 hB1 hg1
          refine hK.out _ _ (fun _ => hM1.cells) ?_
          have hG := G2221 p0 q0 p1 q1 _ v1 p3 q3 V1 hM1
          rw [HW.out, HA.out] at hG
          simp only [Act.put, List.setIfInBounds_toArray, List.set_cons_zero, List.set_cons_succ] at hG
          simp only [Act.put, List.setIfInBounds_toArray, List.set_cons_zero, List.set_cons_succ]
          exact hG
        exact AllM.nil
      have G2220 : ∀ (p0 q0 p1 q1 p2 q2 p3 q3 : Value) (V : World), M4 w V N N (.slice Aq k cq) (.slice At k ct) (.slice An k cn) (.slice Af k cf) k 2 2 2 0 p0 q0 p1 q1 p2 q2 p3 q3 → Wp 14 #[true, true, true, true, true, true, true, true, true, true, true, true, true, true, true, true, true, true, true, true, true, true, true, true, true, true, true, true, false, false, false, false, false, false, false, false, false, false, false, false, false, false] ((((((((A.put (some 21) p0).put (some 22) q0).put (some 27) p1).put (some 28) q1).put (some 33) p2).put (some 34) q2).put (some 40) p3).put (some 41) q3) V := by
        intro p0 q0 p1 q1 p2 q2 p3 q3 V hM
        rw [HW.out, HA.out]
        simp only [Act.put, List.setIfInBounds_toArray, List.set_cons_zero, List.set_cons_succ]
        refine wpM_ready (rs := [28]) (by kernel_rfl) (by simp) ?_
        refine AllM.cons (o := ⟨some 40, _, _, _, _, _⟩) rfl (fun K hK => ?_) ?_
        · refine Kd.R_lit_step (Kd.int .i64) (w0 := w) N 3 (by rfl) (N := 40) rfl (xs := [(k : Int)]) (inner := [.int .i64 k]) (okp := fun _ => True) (ok := fun _ => True) ?_ (Kd.reps_scalar [(k : Int)]) (fun _ _ => trivial) trivial hM.bel hM.sz (by simp) ?_
          · first | (go_simp; done) | (go_simp; rfl)
          intro v1 V1 hR1 hB1 hg1 hat1
          have hM1 := hM.lit3 hR1 hB1 hg1
          refine hK.out _ _ (fun _ => hM1.cells) ?_
          have hG := G2221 p0 q0 p1 q1 p2 q2 v1 q3 V1 hM1
          rw [HW.out, HA.out] at hG
          simp only [Act.put, List.setIfInBounds_toArray, List.set_cons_zero, List.set_cons_succ] at hG
          simp only [Act.put, List.setIfInBounds_toArray, List.set_cons_zero, List.set_cons_succ]
          exact hG
        exact AllM.nil
      have G2111 : ∀ (p0 q0 p1 q1 p2 q2 p3 q3 : Value) (V : World), M4 w V N N (.slice Aq k cq) (.slice At k ct) (.slice An k cn) (.slice Af k cf) k 2 1 1 1 p0 q0 p1 q1 p2 q2 p3 q3 → Wp 15 #[true, true, true, true, true, true, true, true, true, true, true, true, true, true, true, true, false, true, true, true, true, true, false, true, true, true, true, true, true, false, false, false, false, false, false, false, false, false, false, false, false, false] ((((((((A.put (some 21) p0).put (some 22) q0).put (some 27) p1).put (some 28) q1).put (some 33) p2).put (some 34) q2).put (some 40) p3).put (some 41) q3) V := by
        intro p0 q0 p1 q1 p2 q2 p3 q3 V hM
        have hRo : Kd.bool.R 4 V N (fun _ => True) (.slice At k ct) (List.replicate k false) := hM.f1.1
        have hRp : Kd.bool.R 4 V N (fun _ => True) p1 [false] := hM.f1.2
        obtain ⟨A1, c1, hp⟩ := Kd.R_slice hRp
        subst hp
        have hC1 := (Kd.R_reads' hRp).2.2
        rw [HW.out, HA.out]
        simp only [Act.put, List.setIfInBounds_toArray, List.set_cons_zero, List.set_cons_succ]
        refine wpM_ready (rs := [16]) (by kernel_rfl) (by simp) ?_
        refine AllM.cons (o := ⟨some 28, _, _, _, _, _⟩) rfl (fun K hK => ?_) ?_
        · refine Kd.R_append_rows_step Kd.bool (Rr := Kd.bool.K V) (w0 := w) N (by rfl) (.tmp 26) (.tmp 27) 95 4 (.bool false) 1 (by rfl) Try.underlying95 (by kernel_rfl) (by rfl) (by decide) (by omega) (.slice At k ct) (List.replicate k false) [false] A1 1 c1 (fun _ => True) (fun _ => False) (by kernel_rfl) (by kernel_rfl) hRo hC1 (fun _ _ h => h) (fun _ hk => hk.elim) (fun _ _ => trivial) hM.bel hM.sz (by simp only [List.length_replicate, upTo_len]; omega) ?_
          intro v1 V1 hR1 hB1 hg1 hat1
          have hM1 := hM.app1 hR1 hB1 hg1
          refine hK.out _ _ (fun _ => hM1.cells) ?_
          have hG := G2211 p0 q0 _ v1 p2 q2 p3 q3 V1 hM1
          rw [HW.out, HA.out] at hG
          simp only [Act.put, List.setIfInBounds_toArray, List.set_cons_zero, List.set_cons_succ] at hG
          simp only [Act.put, List.setIfInBounds_toArray, List.set_cons_zero, List.set_cons_succ]
          exact hG
        exact AllM.nil
      have G2201 : ∀ (p0 q0 p1 q1 p2 q2 p3 q3 : Value) (V : World), M4 w V N N (.slice Aq k cq) (.slice At k ct) (.slice An k cn) (.slice Af k cf) k 2 2 0 1 p0 q0 p1 q1 p2 q2 p3 q3 → Wp 15 #[true, true, true, true, true, true, true, true, true, true, true, true, true, true, true, true, true, true, true, true, true, false, false, true, true, true, true, true, true, false, false, false, false, false, false, false, false, false, false, false, false, false] ((((((((A.put (some 21) p0).put (some 22) q0).put (some 27) p1).put (some 28) q1).put (some 33) p2).put (some 34) q2).put (some 40) p3).put (some 41) q3) V := by
        intro p0 q0 p1 q1 p2 q2 p3 q3 V hM
        rw [HW.out, HA.out]
        simp only [Act.put, List.setIfInBounds_toArray, List.set_cons_zero, List.set_cons_succ]
        refine wpM_ready (rs := [21]) (by kernel_rfl) (by simp) ?_
        refine AllM.cons (o := ⟨some 33, _, _, _, _, _⟩) rfl (fun K hK => ?_) ?_
        · refine Kd.R_lit_step (Kd.int .u64) (w0 := w) N 28 (by rfl) (N := 33) rfl (xs := [(0 : Int)]) (inner := [.int .u64 0]) (okp := fun _ => True) (ok := fun _ => True) ?_ (Kd.reps_scalar [(0 : Int)]) (fun _ _ => trivial) trivial hM.bel hM.sz (by simp) ?_
          · first | (go_simp; done) | (go_simp; rfl)
          intro v1 V1 hR1 hB1 hg1 hat1
          have hM1 := hM.lit2 hR1 hB1 hg1
          refine hK.out _ _ (fun _ => hM1.cells) ?_
          have hG := G2211 p0 q0 p1 q1 v1 q2 p3 q3 V1 hM1
          rw [HW.out, HA.out] at hG
          simp only [Act.put, List.setIfInBounds_toArray, List.set_cons_zero, List.set_cons_succ] at hG
          simp only [Act.put, List.setIfInBounds_toArray, List.set_cons_zero, List.set_cons_succ]
          exact hG
        exact AllM.nil
      have G2210 : ∀ (p0 q0 p1 q1 p2 q2 p3 q3 : Value) (V : World), M4 w V N N (.slice Aq k cq) (.slice At k ct) (.slice An k cn) (.slice Af k cf) k 2 2 1 0 p0 q0 p1 q1 p2 q2 p3 q3 → Wp 15 #[true, true, true, true, true, true, true, true, true, true, true, true, true, true, true, true, true, true, true, true, true, true, false, true, true, true, true, true, false, false, false, false, false, false, false, false, false, false, false, false, false, false] ((((((((A.put (some 21) p0).put (some 22) q0).put (some 27) p1).put (some 28) q1).put (some 33) p2).put (some 34) q2).put (some 40) p3).put (some 41) q3) V := by
        intro p0 q0 p1 q1 p2 q2 p3 q3 V hM
        have hRo : (Kd.int .u64).R 28 V N (fun _ => True) (.slice An k cn) (List.replicate k (0 : Int)) := hM.f2.1
        have hRp : (Kd.int .u64).R 28 V N (fun _ => True) p2 [(0 : Int)] := hM.f2.2
        obtain ⟨A1, c1, hp⟩ := Kd.R_slice hRp
        subst hp
        have hC1 := (Kd.R_reads' hRp).2.2
        rw [HW.out, HA.out]
        simp only [Act.put, List.setIfInBounds_toArray, List.set_cons_zero, List.set_cons_succ]
        refine wpM_ready (rs := [22, 28]) (by kernel_rfl) (by simp) ?_
        refine AllM.cons (o := ⟨some 34, _, _, _, _, _⟩) rfl (fun K hK => ?_) ?_
        · refine Kd.R_append_rows_step (Kd.int .u64) (Rr := (Kd.int .u64).K V) (w0 := w) N (by rfl) (.tmp 32) (.tmp 33) 50 28 (.int .u64 0) 8 (by rfl) Try.underlying50 (by kernel_rfl) (by rfl) (by decide) (by omega) (.slice An k cn) (List.replicate k (0 : Int)) [(0 : Int)] A1 1 c1 (fun _ => True) (fun _ => False) (by kernel_rfl) (by kernel_rfl) hRo hC1 (fun _ _ h => h) (fun _ hk => hk.elim) (fun _ _ => trivial) hM.bel hM.sz (by simp only [List.length_replicate, upTo_len]; omega) ?_
          intro v1 V1 hR1 hB1 hg1 hat1
          have hM1 := hM.app2 hR1 hB1 hg1
          refine hK.out _ _ (fun _ => hM1.cells) ?_
          have hG := G2220 p0 q0 p1 q1 _ v1 p3 q3 V1 hM1
          rw [HW.out, HA.out] at hG
          simp only [Act.put, List.setIfInBounds_toArray, List.set_cons_zero, List.set_cons_succ] at hG
          simp only [Act.put, List.setIfInBounds_toArray, List.set_cons_zero, List.set_cons_succ]
          exact hG
        refine AllM.cons (o := ⟨some 40, _, _, _, _, _⟩) rfl (fun K hK => ?_) ?_
        · refine Kd.R_lit_step (Kd.int .i64) (w0 := w) N 3 (by rfl) (N := 40) rfl (xs := [(k : Int)]) (inner := [.int .i64 k]) (okp := fun _ => True) (ok := fun _ => True) ?_ (Kd.reps_scalar [(k : Int)]) (fun _ _ => trivial) trivial hM.bel hM.sz (by simp) ?_
          · first | (go_simp; done) | (go_simp; rfl)
          intro v1 V1 hR1 hB1 hg1 hat1
          have hM1 := hM.lit3 hR1 hB1 hg1
          refine hK.out _ _ (fun _ => hM1.cells) ?_
          have hG := G2211 p0 q0 p1 q1 _ q2 v1 q3 V1 hM1
          rw [HW.out, HA.out] at hG
          simp only [Act.put, List.setIfInBounds_toArray, List.set_cons_zero, List.set_cons_succ] at hG
          simp only [Act.put, List.setIfInBounds_toArray, List.set_cons_zero, List.set_cons_succ]
          exact hG
        exact AllM.nil
      have G1111 : ∀ (p0 q0 p1 q1 p2 q2 p3 q3 : Value) (V : World), M4 w V N N (.slice Aq k cq) (.slice At k ct) (.slice An k cn) (.slice Af k cf) k 1 1 1 1 p0 q0 p1 q1 p2 q2 p3 q3 → Wp 16 #[true, true, true, true, true, true, true, true, true, true, false, true, true, true, true, true, false, true, true, true, true, true, false, true, true, true, true, true, true, false, false, false, false, false, false, false, false, false, false, false, false, false] ((((((((A.put (some 21) p0).put (some 22) q0).put (some 27) p1).put (some 28) q1).put (some 33) p2).put (some 34) q2).put (some 40) p3).put (some 41) q3) V := by
        intro p0 q0 p1 q1 p2 q2 p3 q3 V hM
        have hRo : Rq.kd.R 60 V N (fun _ => True) (.slice Aq k cq) (List.replicate k Rq.nil) := hM.f0.1
        have hRp : Rq.kd.R 60 V N (fun _ => True) p0 [Rq.nil] := hM.f0.2
        obtain ⟨A1, c1, hp⟩ := Kd.R_slice hRp
        subst hp
        have hC1 := (Kd.R_reads' hRp).2.2
        rw [HW.out, HA.out]
        simp only [Act.put, List.setIfInBounds_toArray, List.set_cons_zero, List.set_cons_succ]
        refine wpM_ready (rs := [10]) (by kernel_rfl) (by simp) ?_
        refine AllM.cons (o := ⟨some 22, _, _, _, _, _⟩) rfl (fun K hK => ?_) ?_
        · refine Kd.R_append_rows_step Rq.kd (Rr := Rq.kd.K V) (w0 := w) N (by rfl) (.tmp 19) (.tmp 21) 94 60 (.agg #[.int .u64 0, .int .i64 0, .int .i64 0, .int .i64 0, .int .i64 0]) 40 (by rfl) Try.underlying94 (by kernel_rfl) (by rfl) (by decide) (by omega) (.slice Aq k cq) (List.replicate k Rq.nil) [Rq.nil] A1 1 c1 (fun _ => True) (fun _ => False) (by kernel_rfl) (by kernel_rfl) hRo hC1 (fun _ _ h => h) (fun _ hk => hk.elim) (fun _ _ => trivial) hM.bel hM.sz (by simp only [List.length_replicate, upTo_len]; omega) ?_
          intro v1 V1 hR1 hB1 hg1 hat1
          have hM1 := hM.app0 hR1 hB1 hg1
          refine hK.out _ _ (fun _ => hM1.cells) ?_
          have hG := G2111 _ v1 p1 q1 p2 q2 p3 q3 V1 hM1
          rw [HW.out, HA.out] at hG
          simp only [Act.put, List.setIfInBounds_toArray, List.set_cons_zero, List.set_cons_succ] at hG
          simp only [Act.put, List.setIfInBounds_toArray, List.set_cons_zero, List.set_cons_succ]
          exact hG
        exact AllM.nil
      have G2011 : ∀ (p0 q0 p1 q1 p2 q2 p3 q3 : Value) (V : World), M4 w V N N (.slice Aq k cq) (.slice At k ct) (.slice An k cn) (.slice Af k cf) k 2 0 1 1 p0 q0 p1 q1 p2 q2 p3 q3 → Wp 16 #[true, true, true, true, true, true, true, true, true, true, true, true, true, true, true, false, false, true, true, true, true, true, false, true, true, true, true, true, true, false, false, false, false, false, false, false, false, false, false, false, false, false] ((((((((A.put (some 21) p0).put (some 22) q0).put (some 27) p1).put (some 28) q1).put (some 33) p2).put (some 34) q2).put (some 40) p3).put (some 41) q3) V := by
        intro p0 q0 p1 q1 p2 q2 p3 q3 V hM
        rw [HW.out, HA.out]
        simp only [Act.put, List.setIfInBounds_toArray, List.set_cons_zero, List.set_cons_succ]
        refine wpM_ready (rs := [15]) (by kernel_rfl) (by simp) ?_
        refine AllM.cons (o := ⟨some 27, _, _, _, _, _⟩) rfl (fun K hK => ?_) ?_
        · refine Kd.R_lit_step Kd.bool (w0 := w) N 4 (by rfl) (N := 27) rfl (xs := [false]) (inner := [.bool false]) (okp := fun _ => True) (ok := fun _ => True) ?_ (Kd.reps_scalar [false]) (fun _ _ => trivial) trivial hM.bel hM.sz (by simp) ?_
          · first | (go_simp; done) | (go_simp; rfl)
          intro v1 V1 hR1 hB1 hg1 hat1
          have hM1 := hM.lit1 hR1 hB1 hg1
          refine hK.out _ _ (fun _ => hM1.cells) ?_
          have hG := G2111 p0 q0 v1 q1 p2 q2 p3 q3 V1 hM1
          rw [HW.out, HA.out] at hG
          simp only [Act.put, List.setIfInBounds_toArray, List.set_cons_zero, List.set_cons_succ] at hG
          simp only [Act.put, List.setIfInBounds_toArray, List.set_cons_zero, List.set_cons_succ]
          exact hG
        exact AllM.nil
      have G2101 : ∀ (p0 q0 p1 q1 p2 q2 p3 q3 : Value) (V : World), M4 w V N N (.slice Aq k cq) (.slice At k ct) (.slice An k cn) (.slice Af k cf) k 2 1 0 1 p0 q0 p1 q1 p2 q2 p3 q3 → Wp 16 #[true, true, true, true, true, true, true, true, true, true, true, true, true, true, true, true, false, true, true, true, true, false, false, true, true, true, true, true, true, false, false, false, false, false, false, false, false, false, false, false, false, false] ((((((((A.put (some 21) p0).put (some 22) q0).put (some 27) p1).put (some 28) q1).put (some 33) p2).put (some 34) q2).put (some 40) p3).put (some 41) q3) V := by
        intro p0 q0 p1 q1 p2 q2 p3 q3 V hM
        have hRo : Kd.bool.R 4 V N (fun _ => True) (.slice At k ct) (List.replicate k false) := hM.f1.1
        have hRp : Kd.bool.R 4 V N (fun _ => True) p1 [false] := hM.f1.2
        obtain ⟨A1, c1, hp⟩ := Kd.R_slice hRp
        subst hp
        have hC1 := (Kd.R_reads' hRp).2.2
        rw [HW.out, HA.out]
        simp only [Act.put, List.setIfInBounds_toArray, List.set_cons_zero, List.set_cons_succ]
        refine wpM_ready (rs := [16, 21]) (by kernel_rfl) (by simp) ?_
        refine AllM.cons (o := ⟨some 28, _, _, _, _, _⟩) rfl (fun K hK => ?_) ?_
        · refine Kd.R_append_rows_step Kd.bool (Rr := Kd.bool.K V) (w0 := w) N (by rfl) (.tmp 26) (.tmp 27) 95 4 (.bool false) 1 (by rfl) Try.underlying95 (by kernel_rfl) (by rfl) (by decide) (by omega) (.slice At k ct) (List.replicate k false) [false] A1 1 c1 (fun _ => True) (fun _ => False) (by kernel_rfl) (by kernel_rfl) hRo hC1 (fun _ _ h => h) (fun _ hk => hk.elim) (fun _ _ => trivial) hM.bel hM.sz (by simp only [List.length_replicate, upTo_len]; omega) ?_
          intro v1 V1 hR1 hB1 hg1 hat1
          have hM1 := hM.app1 hR1 hB1 hg1
          refine hK.out _ _ (fun _ => hM1.cells) ?_
          have hG := G2201 p0 q0 _ v1 p2 q2 p3 q3 V1 hM1
          rw [HW.out, HA.out] at hG
          simp only [Act.put, List.setIfInBounds_toArray, List.set_cons_zero, List.set_cons_succ] at hG
          simp only [Act.put, List.setIfInBounds_toArray, List.set_cons_zero, List.set_cons_succ]
          exact hG
        refine AllM.cons (o := ⟨some 33, _, _, _, _, _⟩) rfl (fun K hK => ?_) ?_
        · refine Kd.R_lit_step (Kd.int .u64) (w0 := w) N 28 (by rfl) (N := 33) rfl (xs := [(0 : Int)]) (inner := [.int .u64 0]) (okp := fun _ => True) (ok := fun _ => True) ?_ (Kd.reps_scalar [(0 : Int)]) (fun _ _ => trivial) trivial hM.bel hM.sz (by simp) ?_
          · first | (go_simp; done) | (go_simp; rfl)
          intro v1 V1 hR1 hB1 hg1 hat1
          have hM1 := hM.lit2 hR1 hB1 hg1
          refine hK.out _ _ (fun _ => hM1.cells) ?_
          have hG := G2111 p0 q0 _ q1 v1 q2 p3 q3 V1 hM1
          rw [HW.out, HA.out] at hG
          simp only [Act.put, List.setIfInBounds_toArray, List.set_cons_zero, List.set_cons_succ] at hG
          simp only [Act.put, List.setIfInBounds_toArray, List.set_cons_zero, List.set_cons_succ]
          exact hG
        exact AllM.nil
      have G2110 : ∀ (p0 q0 p1 q1 p2 q2 p3 q3 : Value) (V : World), M4 w V N N (.slice Aq k cq) (.slice At k ct) (.slice An k cn) (.slice Af k cf) k 2 1 1 0 p0 q0 p1 q1 p2 q2 p3 q3 → Wp 16 #[true, true, true, true, true, true, true, true, true, true, true, true, true, true, true, true, false, true, true, true, true, true, false, true, true, true, true, true, false, false, false, false, false, false, false, false, false, false, false, false, false, false] ((((((((A.put (some 21) p0).put (some 22) q0).put (some 27) p1).put (some 28) q1).put (some 33) p2).put (some 34) q2).put (some 40) p3).put (some 41) q3) V := by
        intro p0 q0 p1 q1 p2 q2 p3 q3 V hM
        have hRo : Kd.bool.R 4 V N (fun _ => True) (.slice At k ct) (List.replicate k false) := hM.f1.1
        have hRp : Kd.bool.R 4 V N (fun _ => True) p1 [false] := hM.f1.2
        obtain ⟨A1, c1, hp⟩ := Kd.R_slice hRp
        subst hp
        have hC1 := (Kd.R_reads' hRp).2.2
        rw [HW.out, HA.out]
        simp only [Act.put, List.setIfInBounds_toArray, List.set_cons_zero, List.set_cons_succ]
        refine wpM_ready (rs := [16, 28]) (by kernel_rfl) (by simp) ?_
        refine AllM.cons (o := ⟨some 28, _, _, _, _, _⟩) rfl (fun K hK => ?_) ?_
        · refine Kd.R_append_rows_step Kd.bool (Rr := Kd.bool.K V) (w0 := w) N (by rfl) (.tmp 26) (.tmp 27) 95 4 (.bool false) 1 (by rfl) Try.underlying95 (by kernel_rfl) (by rfl) (by decide) (by omega) (.slice At k ct) (List.replicate k false) [false] A1 1 c1 (fun _ => True) (fun _ => False) (by kernel_rfl) (by kernel_rfl) hRo hC1 (fun _ _ h => h) (fun _ hk => hk.elim) (fun _ _ => trivial) hM.bel hM.sz (by simp only [List.length_replicate, upTo_len]; omega) ?_
          intro v1 V1 hR1 hB1 hg1 hat1
          have hM1 := hM.app1 hR1 hB1 hg1
          refine hK.out _ _ (fun _ => hM1.cells) ?_
          have hG := G2210 p0 q0 _ v1 p2 q2 p3 q3 V1 hM1
          rw [HW.out, HA.out] at hG
          simp only [Act.put, List.setIfInBounds_toArray, List.set_cons_zero, List.set_cons_succ] at hG
          simp only [Act.put, List.setIfInBounds_toArray, List.set_cons_zero, List.set_cons_succ]
          exact hG
        refine AllM.cons (o := ⟨some 40, _, _, _, _, _⟩) rfl (fun K hK => ?_) ?_
        · refine Kd.R_lit_step (Kd.int .i64) (w0 := w) N 3 (by rfl) (N := 40) rfl (xs := [(k : Int)]) (inner := [.int .i64 k]) (okp := fun _ => True) (ok := fun _ => True) ?_ (Kd.reps_scalar [(k : Int)]) (fun _ _ => trivial) trivial hM.bel hM.sz (by simp) ?_
          · first | (go_simp; done) | (go_simp; rfl)
          intro v1 V1 hR1 hB1 hg1 hat1
          have hM1 := hM.lit3 hR1 hB1 hg1
          refine hK.out _ _ (fun _ => hM1.cells) ?_
          have hG := G2111 p0 q0 _ q1 p2 q2 v1 q3 V1 hM1
          rw [HW.out, HA.out] at hG
          simp only [Act.put, List.setIfInBounds_toArray, List.set_cons_zero, List.set_cons_succ] at hG
          simp only [Act.put, List.setIfInBounds_toArray, List.set_cons_zero, List.set_cons_succ]
          exact hG
        exact AllM.nil
      have G2200 : ∀ (p0 q0 p1 q1 p2 q2 p3 q3 : Value) (V : World), M4 w V N N (.slice Aq k cq) (.slice At k ct) (.slice An k cn) (.slice Af k cf) k 2 2 0 0 p0 q0 p1 q1 p2 q2 p3 q3 → Wp 16 #[true, true, true, true, true, true, true, true, true, true, true, true, true, true, true, true, true, true, true, true, true, false, false, true, true, true, true, true, false, false, false, false, false, false, false, false, false, false, false, false, false, false] ((((((((A.put (some 21) p0).put (some 22) q0).put (some 27) p1).put (some 28) q1).put (some 33) p2).put (some 34) q2).put (some 40) p3).put (some 41) q3) V := by
        intro p0 q0 p1 q1 p2 q2 p3 q3 V hM
        rw [HW.out, HA.out]
        simp only [Act.put, List.setIfInBounds_toArray, List.set_cons_zero, List.set_cons_succ]
        refine wpM_ready (rs := [21, 28]) (by kernel_rfl) (by simp) ?_
        refine AllM.cons (o := ⟨some 33, _, _, _, _, _⟩) rfl (fun K hK => ?_) ?_
        · refine Kd.R_lit_step (Kd.int .u64) (w0 := w) N 28 (by rfl) (N := 33) rfl (xs := [(0 : Int)]) (inner := [.int .u64 0]) (okp := fun _ => True) (ok := fun _ => True) ?_ (Kd.reps_scalar [(0 : Int)]) (fun _ _ => trivial) trivial hM.bel hM.sz (by simp) ?_
          · first | (go_simp; done) | (go_simp; rfl)
          intro v1 V1 hR1 hB1 hg1 hat1
          have hM1 := hM.lit2 hR1 hB1 hg1
          refine hK.out _ _ (fun _ => hM1.cells) ?_
          have hG := G2210 p0 q0 p1 q1 v1 q2 p3 q3 V1 hM1
          rw [HW.out, HA.out] at hG
          simp only [Act.put, List.setIfInBounds_toArray, List.set_cons_zero, List.set_cons_succ] at hG
          simp only [Act.put, List.setIfInBounds_toArray, List.set_cons_zero, List.set_cons_succ]
          exact hG
        refine AllM.cons (o := ⟨some 40, _, _, _, _, _⟩) rfl (fun K hK => ?_) ?_
        · refine Kd.R_lit_step (Kd.int .i64) (w0 := w) N 3 (by rfl) (N := 40) rfl (xs := [(k : Int)]) (inner := [.int .i64 k]) (okp := fun _ => True) (ok := fun _ => True) ?_ (Kd.reps_scalar [(k : Int)]) (fun _ _ => trivial) trivial hM.bel hM.sz (by simp) ?_
          · first | (go_simp; done) | (go_simp; rfl)
          intro v1 V1 hR1 hB1 hg1 hat1
          have hM1 := hM.lit3 hR1 hB1 hg1
          refine hK.out _ _ (fun _ => hM1.cells) ?_
          have hG := G2201 p0 q0 p1 q1 p2 q2 v1 q3 V1 hM1
          rw [HW.out, HA.out] at hG
          simp only [Act.put, List.setIfInBounds_toArray, List.set_cons_zero, List.set_cons_succ] at hG
          simp only [Act.put, List.setIfInBounds_toArray, List.set_cons_zero, List.set_cons_succ]
          exact hG
        exact AllM.nil
      have G0111 : ∀ (p0 q0 p1 q1 p2 q2 p3 q3 : Value) (V : World), M4 w V N N (.slice Aq k cq) (.slice At k ct) (.slice An k cn) (.slice Af k cf) k 0 1 1 1 p0 q0 p1 q1 p2 q2 p3 q3 → Wp 17 #[true, true, true, true, true, true, true, true, true, false, false, true, true, true, true, true, false, true, true, true, true, true, false, true, true, true, true, true, true, false, false, false, false, false, false, false, false, false, false, false, false, false] ((((((((A.put (some 21) p0).put (some 22) q0).put (some 27) p1).put (some 28) q1).put (some 33) p2).put (some 34) q2).put (some 40) p3).put (some 41) q3) V := by
        intro p0 q0 p1 q1 p2 q2 p3 q3 V hM
        rw [HW.out, HA.out]
        simp only [Act.put, List.setIfInBounds_toArray, List.set_cons_zero, List.set_cons_succ]
        refine wpM_ready (rs := [9]) (by kernel_rfl) (by simp) ?_
        refine AllM.cons (o := ⟨some 21, _, _, _, _, _⟩) rfl (fun K hK => ?_) ?_
        · refine Kd.R_lit_step Rq.kd (w0 := w) N 60 (by rfl) (N := 21) rfl (xs := [Rq.nil]) (inner := Rq.nil.enc) (okp := fun _ => True) (ok := fun _ => True) ?_ (reps_fk _ _ Rq.nil) (fun _ _ => trivial) trivial hM.bel hM.sz (by simp) ?_
          · first | (go_simp; done) | (go_simp; rfl)
          intro v1 V1 hR1 hB1 hg1 hat1
          have hM1 := hM.lit0 hR1 hB1 hg1
          refine hK.out _ _ (fun _ => hM1.cells) ?_
          have hG := G1111 v1 q0 p1 q1 p2 q2 p3 q3 V1 hM1
          rw [HW.out, HA.out] at hG
          simp only [Act.put, List.setIfInBounds_toArray, List.set_cons_zero, List.set_cons_succ] at hG
          simp only [Act.put, List.setIfInBounds_toArray, List.set_cons_zero, List.set_cons_succ]
          exact hG
        exact AllM.nil
      have G1011 : ∀ (p0 q0 p1 q1 p2 q2 p3 q3 : Value) (V : World), M4 w V N N (.slice Aq k cq) (.slice At k ct) (.slice An k cn) (.slice Af k cf) k 1 0 1 1 p0 q0 p1 q1 p2 q2 p3 q3 → Wp 17 #[true, true, true, true, true, true, true, true, true, true, false, true, true, true, true, false, false, true, true, true, true, true, false, true, true, true, true, true, true, false, false, false, false, false, false, false, false, false, false, false, false, false] ((((((((A.put (some 21) p0).put (some 22) q0).put (some 27) p1).put (some 28) q1).put (some 33) p2).put (some 34) q2).put (some 40) p3).put (some 41) q3) V := by
        intro p0 q0 p1 q1 p2 q2 p3 q3 V hM
        have hRo : Rq.kd.R 60 V N (fun _ => True) (.slice Aq k cq) (List.replicate k Rq.nil) := hM.f0.1
        have hRp : Rq.kd.R 60 V N (fun _ => True) p0 [Rq.nil] := hM.f0.2
        obtain ⟨A1, c1, hp⟩ := Kd.R_slice hRp
        subst hp
        have hC1 := (Kd.R_reads' hRp).2.2
        rw [HW.out, HA.out]
        simp only [Act.put, List.setIfInBounds_toArray, List.set_cons_zero, List.set_cons_succ]
        refine wpM_ready (rs := [10, 15]) (by kernel_rfl) (by simp) ?_
        refine AllM.cons (o := ⟨some 22, _, _, _, _, _⟩) rfl (fun K hK => ?_) ?_
        · refine Kd.R_append_rows_step Rq.kd (Rr := Rq.kd.K V) (w0 := w) N (by rfl) (.tmp 19) (.tmp 21) 94 60 (.agg #[.int .u64 0, .int .i64 0, .int .i64 0, .int .i64 0, .int .i64 0]) 40 (by rfl) Try.underlying94 (by kernel_rfl) (by rfl) (by decide) (by omega) (.slice Aq k cq) (List.replicate k Rq.nil) [Rq.nil] A1 1 c1 (fun _ => True) (fun _ => False) (by kernel_rfl) (by kernel_rfl) hRo hC1 (fun _ _ h => h) (fun _ hk => hk.elim) (fun _ _ => trivial) hM.bel hM.sz (by simp only [List.length_replicate, upTo_len]; omega) ?_
          intro v1 V1 hR1 hB1 hg1 hat1
          have hM1 := hM.app0 hR1 hB1 hg1
          refine hK.out _ _ (fun _ => hM1.cells) ?_
          have hG := G2011 _ v1 p1 q1 p2 q2 p3 q3 V1 hM1
          rw [HW.out, HA.out] at hG
          simp only [Act.put, List.setIfInBounds_toArray, List.set_cons_zero, List.set_cons_succ] at hG
          simp only [Act.put, List.setIfInBounds_toArray, List.set_cons_zero, List.set_cons_succ]
          exact hG
        refine AllM.cons (o := ⟨some 27, _, _, _, _, _⟩) rfl (fun K hK => ?_) ?_
        · refine Kd.R_lit_step Kd.bool (w0 := w) N 4 (by rfl) (N := 27) rfl (xs := [false]) (inner := [.bool false]) (okp := fun _ => True) (ok := fun _ => True) ?_ (Kd.reps_scalar [false]) (fun _ _ => trivial) trivial hM.bel hM.sz (by simp) ?_
          · first | (go_simp; done) | (go_simp; rfl)
          intro v1 V1 hR1 hB1 hg1 hat1
          have hM1 := hM.lit1 hR1 hB1 hg1
          refine hK.out _ _ (fun _ => hM1.cells) ?_
          have hG := G1111 _ q0 v1 q1 p2 q2 p3 q3 V1 hM1
          rw [HW.out, HA.out] at hG
          simp only [Act.put, List.setIfInBounds_toArray, List.set_cons_zero, List.set_cons_succ] at hG
          simp only [Act.put, List.setIfInBounds_toArray, List.set_cons_zero, List.set_cons_succ]
          exact hG
        exact AllM.nil
      have G1101 : ∀ (p0 q0 p1 q1 p2 q2 p3 q3 : Value) (V : World), M4 w V N N (.slice Aq k cq) (.slice At k ct) (.slice An k cn) (.slice Af k cf) k 1 1 0 1 p0 q0 p1 q1 p2 q2 p3 q3 → Wp 17 #[true, true, true, true, true, true, true, true, true, true, false, true, true, true, true, true, false, true, true, true, true, false, false, true, true, true, true, true, true, false, false, false, false, false, false, false, false, false, false, false, false, false] ((((((((A.put (some 21) p0).put (some 22) q0).put (some 27) p1).put (some 28) q1).put (some 33) p2).put (some 34) q2).put (some 40) p3).put (some 41) q3) V := by
        intro p0 q0 p1 q1 p2 q2 p3 q3 V hM
        have hRo : Rq.kd.R 60 V N (fun _ => True) (.slice Aq k cq) (List.replicate k Rq.nil) := hM.f0.1
        have hRp : Rq.kd.R 60 V N (fun _ => True) p0 [Rq.nil] := hM.f0.2
        obtain ⟨A1, c1, hp⟩ := Kd.R_slice hRp
        subst hp
        have hC1 := (Kd.R_reads' hRp).2.2
        rw [HW.out, HA.out]
        simp only [Act.put, List.setIfInBounds_toArray, List.set_cons_zero, List.set_cons_succ]
        refine wpM_ready (rs := [10, 21]) (by kernel_rfl) (by simp) ?_
        refine AllM.cons (o := ⟨some 22, _, _, _, _, _⟩) rfl (fun K hK => ?_) ?_
        · refine Kd.R_append_rows_step Rq.kd (Rr := Rq.kd.K V) (w0 := w) N (by rfl) (.tmp 19) (.tmp 21) 94 60 (.agg #[.int .u64 0, .int .i64 0, .int .i64 0, .int .i64 0, .int .i64 0]) 40 (by rfl) Try.underlying94 (by kernel_rfl) (by rfl) (by decide) (by omega) (.slice Aq k cq) (List.replicate k Rq.nil) [Rq.nil] A1 1 c1 (fun _ => True) (fun _ => False) (by kernel_rfl) (by kernel_rfl) hRo hC1 (fun _ _ h => h) (fun _ hk => hk.elim) (fun _ _ => trivial) hM.bel hM.sz (by simp only [List.length_replicate, upTo_len]; omega) ?_
          intro v1 V1 hR1 hB1 hg1 hat1
          have hM1 := hM.app0 hR1 hB1 hg1
          refine hK.out _ _ (fun _ => hM1.cells) ?_
          have hG := G2101 _ v1 p1 q1 p2 q2 p3 q3 V1 hM1
          rw [HW.out, HA.out] at hG
          simp only [Act.put, List.setIfInBounds_toArray, List.set_cons_zero, List.set_cons_succ] at hG
          simp only [Act.put, List.setIfInBounds_toArray, List.set_cons_zero, List.set_cons_succ]
          exact hG
        refine AllM.cons (o := ⟨some 33, _, _, _, _, _⟩) rfl (fun K hK => ?_) ?_
        · refine Kd.R_lit_step (Kd.int .u64) (w0 := w) N 28 (by rfl) (N := 33) rfl (xs := [(0 : Int)]) (inner := [.int .u64 0]) (okp := fun _ => True) (ok := fun _ => True) ?_ (Kd.reps_scalar [(0 : Int)]) (fun _ _ => trivial) trivial hM.bel hM.sz (by simp) ?_
          · first | (go_simp; done) | (go_simp; rfl)
          intro v1 V1 hR1 hB1 hg1 hat1
          have hM1 := hM.lit2 hR1 hB1 hg1
          refine hK.out _ _ (fun _ => hM1.cells) ?_
          have hG := G1111 _ q0 p1 q1 v1 q2 p3 q3 V1 hM1
          rw [HW.out, HA.out] at hG
          simp only [Act.put, List.setIfInBounds_toArray, List.set_cons_zero, List.set_cons_succ] at hG
          simp only [Act.put, List.setIfInBounds_toArray, List.set_cons_zero, List.set_cons_succ]
          exact hG
        exact AllM.nil
      have G1110 : ∀ (p0 q0 p1 q1 p2 q2 p3 q3 : Value) (V : World), M4 w V N N (.slice Aq k cq) (.slice At k ct) (.slice An k cn) (.slice Af k cf) k 1 1 1 0 p0 q0 p1 q1 p2 q2 p3 q3 → Wp 17 #[true, true, true, true, true, true, true, true, true, true, false, true, true, true, true, true, false, true, true, true, true, true, false, true, true, true, true, true, false, false, false, false, false, false, false, false, false, false, false, false, false, false] ((((((((A.put (some 21) p0).put (some 22) q0).put (some 27) p1).put (some 28) q1).put (some 33) p2).put (some 34) q2).put (some 40) p3).put (some 41) q3) V := by
        intro p0 q0 p1 q1 p2 q2 p3 q3 V hM
        have hRo : Rq.kd.R 60 V N (fun _ => True) (.slice Aq k cq) (List.replicate k Rq.nil) := hM.f0.1
        have hRp : Rq.kd.R 60 V N (fun _ => True) p0 [Rq.nil] := hM.f0.2
        obtain ⟨A1, c1, hp⟩ := Kd.R_slice hRp
        subst hp
        have hC1 := (Kd.R_reads' hRp).2.2
        rw [HW.out, HA.out]
        simp only [Act.put, List.setIfInBounds_toArray, List.set_cons_zero, List.set_cons_succ]
        refine wpM_ready (rs := [10, 28]) (by kernel_rfl) (by simp) ?_
        refine AllM.cons (o := ⟨some 22, _, _, _, _, _⟩) rfl (fun K hK => ?_) ?_
        · refine Kd.R_append_rows_step Rq.kd (Rr := Rq.kd.K V) (w0 := w) N (by rfl) (.tmp 19) (.tmp 21) 94 60 (.agg #[.int .u64 0, .int .i64 0, .int .i64 0, .int .i64 0, .int .i64 0]) 40 (by rfl) Try.underlying94 (by kernel_rfl) (by rfl) (by decide) (by omega) (.slice Aq k cq) (List.replicate k Rq.nil) [Rq.nil] A1 1 c1 (fun _ => True) (fun _ => False) (by kernel_rfl) (by kernel_rfl) hRo hC1 (fun _ _ h => h) (fun _ hk => hk.elim) (fun _ _ => trivial) hM.bel hM.sz (by simp only [List.length_replicate, upTo_len]; omega) ?_
          intro v1 V1 hR1 hB1 hg1 hat1
          have hM1 := hM.app0 hR1 hB1 hg1
          refine hK.out _ _ (fun _ => hM1.cells) ?_
          have hG := G2110 _ v1 p1 q1 p2 q2 p3 q3 V1 hM1
          rw [HW.out, HA.out] at hG
          simp only [Act.put, List.setIfInBounds_toArray, List.set_cons_zero, List.set_cons_succ] at hG
          simp only [Act.put, List.setIfInBounds_toArray, List.set_cons_zero, List.set_cons_succ]
          exact hG
        refine AllM.cons (o := ⟨some 40, _, _, _, _, _⟩) rfl (fun K hK => ?_) ?_
        · refine Kd.R_lit_step (Kd.int .i64) (w0 := w) N 3 (by rfl) (N := 40) rfl (xs := [(k : Int)]) (inner := [.int .i64 k]) (okp := fun _ => True) (ok := fun _ => True) ?_ (Kd.reps_scalar [(k : Int)]) (fun _ _ => trivial) trivial hM.bel hM.sz (by simp) ?_
          · first | (go_simp; done) | (go_simp; rfl)
          intro v1 V1 hR1 hB1 hg1 hat1
          have hM1 := hM.lit3 hR1 hB1 hg1
          refine hK.out _ _ (fun _ => hM1.cells) ?_
          have hG := G1111 _ q0 p1 q1 p2 q2 v1 q3 V1 hM1
          rw [HW.out, HA.out] at hG
          simp only [Act.put, List.setIfInBounds_toArray, List.set_cons_zero, List.set_cons_succ] at hG
          simp only [Act.put, List.setIfInBounds_toArray, List.set_cons_zero, List.set_cons_succ]
          exact hG
        exact AllM.nil
      have G2001 : ∀ (p0 q0 p1 q1 p2 q2 p3 q3 : Value) (V : World), M4 w V N N (.slice Aq k cq) (.slice At k ct) (.slice An k cn) (.slice Af k cf) k 2 0 0 1 p0 q0 p1 q1 p2 q2 p3 q3 → Wp 17 #[true, true, true, true, true, true, true, true, true, true, true, true, true, true, true, false, false, true, true, true, true, false, false, true, true, true, true, true, true, false, false, false, false, false, false, false, false, false, false, false, false, false] ((((((((A.put (some 21) p0).put (some 22) q0).put (some 27) p1).put (some 28) q1).put (some 33) p2).put (some 34) q2).put (some 40) p3).put (some 41) q3) V := by
        intro p0 q0 p1 q1 p2 q2 p3 q3 V hM
        rw [HW.out, HA.out]
        simp only [Act.put, List.setIfInBounds_toArray, List.set_cons_zero, List.set_cons_succ]
        refine wpM_ready (rs := [15, 21]) (by kernel_rfl) (by simp) ?_
        refine AllM.cons (o := ⟨some 27, _, _, _, _, _⟩) rfl (fun K hK => ?_) ?_
        · refine Kd.R_lit_step Kd.bool (w0 := w) N 4 (by rfl) (N := 27) rfl (xs := [false]) (inner := [.bool false]) (okp := fun _ => True) (ok := fun _ => True) ?_ (Kd.reps_scalar [false]) (fun _ _ => trivial) trivial hM.bel hM.sz (by simp) ?_
          · first | (go_simp; done) | (go_simp; rfl)
          intro v1 V1 hR1 hB1 hg1 hat1
          have hM1 := hM.lit1 hR1 hB1 hg1
          refine hK.out _ _ (fun _ => hM1.cells) ?_
          have hG := G2101 p0 q0 v1 q1 p2 q2 p3 q3 V1 hM1
          rw [HW.out, HA.out] at hG
          simp only [Act.put, List.setIfInBounds_toArray, List.set_cons_zero, List.set_cons_succ] at hG
          simp only [Act.put, List.setIfInBounds_toArray, List.set_cons_zero, List.set_cons_succ]
          exact hG
        refine AllM.cons (o := ⟨some 33, _, _, _, _, _⟩) rfl (fun K hK => ?_) ?_
        · refine Kd.R_lit_step (Kd.int .u64) (w0 := w) N 28 (by rfl) (N := 33) rfl (xs := [(0 : Int)]) (inner := [.int .u64 0]) (okp := fun _ => True) (ok := fun _ => True) ?_ (Kd.reps_scalar [(0 : Int)]) (fun _ _ => trivial) trivial hM.bel hM.sz (by simp) ?_
          · first | (go_simp; done) | (go_simp; rfl)
          intro v1 V1 hR1 hB1 hg1 hat1
          have hM1 := hM.lit2 hR1 hB1 hg1
          refine hK.out _ _ (fun _ => hM1.cells) ?_
          have hG := G2011 p0 q0 p1 q1 v1 q2 p3 q3 V1 hM1
          rw [HW.out, HA.out] at hG
          simp only [Act.put, List.setIfInBounds_toArray, List.set_cons_zero, List.set_cons_succ] at hG
          simp only [Act.put, List.setIfInBounds_toArray, List.set_cons_zero, List.set_cons_succ]
          exact hG
        exact AllM.nil
      have G2010 : ∀ (p0 q0 p1 q1 p2 q2 p3 q3 : Value) (V : World), M4 w V N N (.slice Aq k cq) (.slice At k ct) (.slice An k cn) (.slice Af k cf) k 2 0 1 0 p0 q0 p1 q1 p2 q2 p3 q3 → Wp 17 #[true, true, true, true, true, true, true, true, true, true, true, true, true, true, true, false, false, true, true, true, true, true, false, true, true, true, true, true, false, false, false, false, false, false, false, false, false, false, false, false, false, false] ((((((((A.put (some 21) p0).put (some 22) q0).put (some 27) p1).put (some 28) q1).put (some 33) p2).put (some 34) q2).put (some 40) p3).put (some 41) q3) V := by
        intro p0 q0 p1 q1 p2 q2 p3 q3 V hM
        rw [HW.out, HA.out]
        simp only [Act.put, List.setIfInBounds_toArray, List.set_cons_zero, List.set_cons_succ]
        refine wpM_ready (rs := [15, 28]) (by kernel_rfl) (by simp) ?_
        refine AllM.cons (o := ⟨some 27, _, _, _, _, _⟩) rfl (fun K hK => ?_) ?_
        · refine Kd.R_lit_step Kd.bool (w0 := w) N 4 (by rfl) (N := 27) rfl (xs := [false]) (inner := [.bool false]) (okp := fun _ => True) (ok := fun _ => True) ?_ (Kd.reps_scalar [false]) (fun _ _ => trivial) trivial hM.bel hM.sz (by simp) ?_
          · first | (go_simp; done) | (go_simp; rfl)
          intro v1 V1 hR1 hB1 hg1 hat1
          have hM1 := hM.lit1 hR1 hB1 hg1
          refine hK.out _ _ (fun _ => hM1.cells) ?_
          have hG := G2110 p0 q0 v1 q1 p2 q2 p3 q3 V1 hM1
          rw [HW.out, HA.out] at hG
          simp only [Act.put, List.setIfInBounds_toArray, List.set_cons_zero, List.set_cons_succ] at hG
          simp only [Act.put, List.setIfInBounds_toArray, List.set_cons_zero, List.set_cons_succ]
          exact hG
        refine AllM.cons (o := ⟨some 40, _, _, _, _, _⟩) rfl (fun K hK => ?_) ?_
        · refine Kd.R_lit_step (Kd.int .i64) (w0 := w) N 3 (by rfl) (N := 40) rfl (xs := [(k : Int)]) (inner := [.int .i64 k]) (okp := fun _ => True) (ok := fun _ => True) ?_ (Kd.reps_scalar [(k : Int)]) (fun _ _ => trivial) trivial hM.bel hM.sz (by simp) ?_
          · first | (go_simp; done) | (go_simp; rfl)
          intro v1 V1 hR1 hB1 hg1 hat1
          have hM1 := hM.lit3 hR1 hB1 hg1
          refine hK.out _ _ (fun _ => hM1.cells) ?_
          have hG := G2011 p0 q0 p1 q1 p2 q2 v1 q3 V1 hM1
          rw [HW.out, HA.out] at hG
          simp only [Act.put, List.setIfInBounds_toArray, List.set_cons_zero, List.set_cons_succ] at hG
          simp only [Act.put, List.setIfInBounds_toArray, List.set_cons_zero, List.set_cons_succ]
          exact hG
        exact AllM.nil
      have G2100 : ∀ (p0 q0 p1 q1 p2 q2 p3 q3 : Value) (V : World), M4 w V N N (.slice Aq k cq) (.slice At k ct) (.slice An k cn) (.slice Af k cf) k 2 1 0 0 p0 q0 p1 q1 p2 q2 p3 q3 → Wp 17 #[true, true, true, true, true, true, true, true, true, true, true, true, true, true, true, true, false, true, true, true, true, false, false, true, true, true, true, true, false, false, false, false, false, false, false, false, false, false, false, false, false, false] ((((((((A.put (some 21) p0).put (some 22) q0).put (some 27) p1).put (some 28) q1).put (some 33) p2).put (some 34) q2).put (some 40) p3).put (some 41) q3) V := by
        intro p0 q0 p1 q1 p2 q2 p3 q3 V hM
        have hRo : Kd.bool.R 4 V N (fun _ => True) (.slice At k ct) (List.replicate k false) := hM.f1.1
        have hRp : Kd.bool.R 4 V N (fun _ => True) p1 [false] := hM.f1.2
        obtain ⟨A1, c1, hp⟩ := Kd.R_slice hRp
        subst hp
        have hC1 := (Kd.R_reads' hRp).2.2
        rw [HW.out, HA.out]
        simp only [Act.put, List.setIfInBounds_toArray, List.set_cons_zero, List.set_cons_succ]
        refine wpM_ready (rs := [16, 21, 28]) (by kernel_rfl) (by simp) ?_
        refine AllM.cons (o := ⟨some 28, _, _, _, _, _⟩) rfl (fun K hK => ?_) ?_
        · refine Kd.R_append_rows_step Kd.bool (Rr := Kd.bool.K V) (w0 := w) N (by rfl) (.tmp 26) (.tmp 27) 95 4 (.bool false) 1 (by rfl) Try.underlying95 (by kernel_rfl) (by rfl) (by decide) (by omega) (.slice At k ct) (List.replicate k false) [false] A1 1 c1 (fun _ => True) (fun _ => False) (by kernel_rfl) (by kernel_rfl) hRo hC1 (fun _ _ h => h) (fun _ hk => hk.elim) (fun _ _ => trivial) hM.bel hM.sz (by simp only [List.length_replicate, upTo_len]; omega) ?_
          intro v1 V1 hR1 hB1 hg1 hat1
          have hM1 := hM.app1 hR1 hB1 hg1
          refine hK.out _ _ (fun _ => hM1.cells) ?_
          have hG := G2200 p0 q0 _ v1 p2 q2 p3 q3 V1 hM1
          rw [HW.out, HA.out] at hG
          simp only [Act.put, List.setIfInBounds_toArray, List.set_cons_zero, List.set_cons_succ] at hG
          simp only [Act.put, List.setIfInBounds_toArray, List.set_cons_zero, List.set_cons_succ]
          exact hG
        refine AllM.cons (o := ⟨some 33, _, _, _, _, _⟩) rfl (fun K hK => ?_) ?_
        · refine Kd.R_lit_step (Kd.int .u64) (w0 := w) N 28 (by rfl) (N := 33) rfl (xs := [(0 : Int)]) (inner := [.int .u64 0]) (okp := fun _ => True) (ok := fun _ => True) ?_ (Kd.reps_scalar [(0 : Int)]) (fun _ _ => trivial) trivial hM.bel hM.sz (by simp) ?_
          · first | (go_simp; done) | (go_simp; rfl)
          intro v1 V1 hR1 hB1 hg1 hat1
          have hM1 := hM.lit2 hR1 hB1 hg1
          refine hK.out _ _ (fun _ => hM1.cells) ?_
          have hG := G2110 p0 q0 _ q1 v1 q2 p3 q3 V1 hM1
          rw [HW.out, HA.out] at hG
          simp only [Act.put, List.setIfInBounds_toArray, List.set_cons_zero, List.set_cons_succ] at hG
          simp only [Act.put, List.setIfInBounds_toArray, List.set_cons_zero, List.set_cons_succ]
          exact hG
        refine AllM.cons (o := ⟨some 40, _, _, _, _, _⟩) rfl (fun K hK => ?_) ?_
        · refine Kd.R_lit_step (Kd.int .i64) (w0 := w) N 3 (by rfl) (N := 40) rfl (xs := [(k : Int)]) (inner := [.int .i64 k]) (okp := fun _ => True) (ok := fun _ => True) ?_ (Kd.reps_scalar [(k : Int)]) (fun _ _ => trivial) trivial hM.bel hM.sz (by simp) ?_
          · first | (go_simp; done) | (go_simp; rfl)
          intro v1 V1 hR1 hB1 hg1 hat1
          have hM1 := hM.lit3 hR1 hB1 hg1
          refine hK.out _ _ (fun _ => hM1.cells) ?_
          have hG := G2101 p0 q0 _ q1 p2 q2 v1 q3 V1 hM1
          rw [HW.out, HA.out] at hG
          simp only [Act.put, List.setIfInBounds_toArray, List.set_cons_zero, List.set_cons_succ] at hG
          simp only [Act.put, List.setIfInBounds_toArray, List.set_cons_zero, List.set_cons_succ]
          exact hG
        exact AllM.nil
      have G0011 : ∀ (p0 q0 p1 q1 p2 q2 p3 q3 : Value) (V : World), M4 w V N N (.slice Aq k cq) (.slice At k ct) (.slice An k cn) (.slice Af k cf) k 0 0 1 1 p0 q0 p1 q1 p2 q2 p3 q3 → Wp 18 #[true, true, true, true, true, true, true, true, true, false, false, true, true, true, true, false, false, true, true, true, true, true, false, true, true, true, true, true, true, false, false, false, false, false, false, false, false, false, false, false, false, false] ((((((((A.put (some 21) p0).put (some 22) q0).put (some 27) p1).put (some 28) q1).put (some 33) p2).put (some 34) q2).put (some 40) p3).put (some 41) q3) V := by
        intro p0 q0 p1 q1 p2 q2 p3 q3 V hM
        rw [HW.out, HA.out]
        simp only [Act.put, List.setIfInBounds_toArray, List.set_cons_zero, List.set_cons_succ]
        refine wpM_ready (rs := [9, 15]) (by kernel_rfl) (by simp) ?_
        refine AllM.cons (o := ⟨some 21, _, _, _, _, _⟩) rfl (fun K hK => ?_) ?_
        · refine Kd.R_lit_step Rq.kd (w0 := w) N 60 (by rfl) (N := 21) rfl (xs := [Rq.nil]) (inner := Rq.nil.enc) (okp := fun _ => True) (ok := fun _ => True) ?_ (reps_fk _ _ Rq.nil) (fun _ _ => trivial) trivial hM.bel hM.sz (by simp) ?_
          · first | (go_simp; done) | (go_simp; rfl)
          intro v1 V1 hR1 hB1 hg1 hat1
          have hM1 := hM.lit0 hR1 hB1 hg1
          refine hK.out _ _ (fun _ => hM1.cells) ?_
          have hG := G1011 v1 q0 p1 q1 p2 q2 p3 q3 V1 hM1
          rw [HW.out, HA.out] at hG
          simp only [Act.put, List.setIfInBounds_toArray, List.set_cons_zero, List.set_cons_succ] at hG
          simp only [Act.put, List.setIfInBounds_toArray, List.set_cons_zero, List.set_cons_succ]
          exact hG
        refine AllM.cons (o := ⟨some 27, _, _, _, _, _⟩) rfl (fun K hK => ?_) ?_
        · refine Kd.R_lit_step Kd.bool (w0 := w) N 4 (by rfl) (N := 27) rfl (xs := [false]) (inner := [.bool false]) (okp := fun _ => True) (ok := fun _ => True) ?_ (Kd.reps_scalar [false]) (fun _ _ => trivial) trivial hM.bel hM.sz (by simp) ?_
          · first | (go_simp; done) | (go_simp; rfl)
          intro v1 V1 hR1 hB1 hg1 hat1
          have hM1 := hM.lit1 hR1 hB1 hg1
          refine hK.out _ _ (fun _ => hM1.cells) ?_
          have hG := G0111 p0 q0 v1 q1 p2 q2 p3 q3 V1 hM1
          rw [HW.out, HA.out] at hG
          simp only [Act.put, List.setIfInBounds_toArray, List.set_cons_zero, List.set_cons_succ] at hG
          simp only [Act.put, List.setIfInBounds_toArray, List.set_cons_zero, List.set_cons_succ]
          exact hG
        exact AllM.nil
      have G0101 : ∀ (p0 q0 p1 q1 p2 q2 p3 q3 : Value) (V : World), M4 w V N N (.slice Aq k cq) (.slice At k ct) (.slice An k cn) (.slice Af k cf) k 0 1 0 1 p0 q0 p1 q1 p2 q2 p3 q3 → Wp 18 #[true, true, true, true, true, true, true, true, true, false, false, true, true, true, true, true, false, true, true, true, true, false, false, true, true, true, true, true, true, false, false, false, false, false, false, false, false, false, false, false, false, false] ((((((((A.put (some 21) p0).put (some 22) q0).put (some 27) p1).put (some 28) q1).put (some 33) p2).put (some 34) q2).put (some 40) p3).put (some 41) q3) V := by
        intro p0 q0 p1 q1 p2 q2 p3 q3 V hM
        rw [HW.out, HA.out]
        simp only [Act.put, List.setIfInBounds_toArray, List.set_cons_zero, List.set_cons_succ]
        refine wpM_ready (rs := [9, 21]) (by kernel_rfl) (by simp) ?_
        refine AllM.cons (o := ⟨some 21, _, _, _, _, _⟩) rfl (fun K hK => ?_) ?_
        · refine Kd.R_lit_step Rq.kd (w0 := w) N 60 (by rfl) (N := 21) rfl (xs := [Rq.nil]) (inner := Rq.nil.enc) (okp := fun _ => True) (ok := fun _ => True) ?_ (reps_fk _ _ Rq.nil) (fun _ _ => trivial) trivial hM.bel hM.sz (by simp) ?_
          · first | (go_simp; done) | (go_simp; rfl)
          intro v1 V1 hR1 hB1 hg1 hat1
          have hM1 := hM.lit0 hR1 hB1 hg1
          refine hK.out _ _ (fun _ => hM1.cells) ?_
          have hG := G1101 v1 q0 p1 q1 p2 q2 p3 q3 V1 hM1
          rw [HW.out, HA.out] at hG
          simp only [Act.put, List.setIfInBounds_toArray, List.set_cons_zero, List.set_cons_succ] at hG
          simp only [Act.put, List.setIfInBounds_toArray, List.set_cons_zero, List.set_cons_succ]
          exact hG
        refine AllM.cons (o := ⟨some 33, _, _, _, _, _⟩) rfl (fun K hK => ?_) ?_
        · refine Kd.R_lit_step (Kd.int .u64) (w0 := w) N 28 (by rfl) (N := 33) rfl (xs := [(0 : Int)]) (inner := [.int .u64 0]) (okp := fun _ => True) (ok := fun _ => True) ?_ (Kd.reps_scalar [(0 : Int)]) (fun _ _ => trivial) trivial hM.bel hM.sz (by simp) ?_
          · first | (go_simp; done) | (go_simp; rfl)
          intro v1 V1 hR1 hB1 hg1 hat1
          have hM1 := hM.lit2 hR1 hB1 hg1
          refine hK.out _ _ (fun _ => hM1.cells) ?_
          have hG := G0111 p0 q0 p1 q1 v1 q2 p3 q3 V1 hM1
          rw [HW.out, HA.out] at hG
          simp only [Act.put, List.setIfInBounds_toArray, List.set_cons_zero, List.set_cons_succ] at hG
          simp only [Act.put, List.setIfInBounds_toArray, List.set_cons_zero, List.set_cons_succ]
          exact hG
        exact AllM.nil
      have G0110 : ∀ (p0 q0 p1 q1 p2 q2 p3 q3 : Value) (V : World), M4 w V N N (.slice Aq k cq) (.slice At k ct) (.slice An k cn) (.slice Af k cf) k 0 1 1 0 p0 q0 p1 q1 p2 q2 p3 q3 → Wp 18 #[true, true, true, true, true, true, true, true, true, false, false, true, true, true, true, true, false, true, true, true, true, true, false, true, true, true, true, true, false, false, false, false, false, false, false, false, false, false, false, false, false, false] ((((((((A.put (some 21) p0).put (some 22) q0).put (some 27) p1).put (some 28) q1).put (some 33) p2).put (some 34) q2).put (some 40) p3).put (some 41) q3) V := by
        intro p0 q0 p1 q1 p2 q2 p3 q3 V hM
        rw [HW.out, HA.out]
        simp only [Act.put, List.setIfInBounds_toArray, List.set_cons_zero, List.set_cons_succ]
        refine wpM_ready (rs := [9, 28]) (by kernel_rfl) (by simp) ?_
        refine AllM.cons (o := ⟨some 21, _, _, _, _, _⟩) rfl (fun K hK => ?_) ?_
        · refine Kd.R_lit_step Rq.kd (w0 := w) N 60 (by rfl) (N := 21) rfl (xs := [Rq.nil]) (inner := Rq.nil.enc) (okp := fun _ => True) (ok := fun _ => True) ?_ (reps_fk _ _ Rq.nil) (fun _ _ => trivial) trivial hM.bel hM.sz (by simp) ?_
          · first | (go_simp; done) | (go_simp; rfl)
          intro v1 V1 hR1 hB1 hg1 hat1
          have hM1 := hM.lit0 hR1 hB1 hg1
          refine hK.out _ _ (fun _ => hM1.cells) ?_
          have hG := G1110 v1 q0 p1 q1 p2 q2 p3 q3 V1 hM1
          rw [HW.out, HA.out] at hG
          simp only [Act.put, List.setIfInBounds_toArray, List.set_cons_zero, List.set_cons_succ] at hG
          simp only [Act.put, List.setIfInBounds_toArray, List.set_cons_zero, List.set_cons_succ]
          exact hG
        refine AllM.cons (o := ⟨some 40, _, _, _, _, _⟩) rfl (fun K hK => ?_) ?_
        · refine Kd.R_lit_step (Kd.int .i64) (w0 := w) N 3 (by rfl) (N := 40) rfl (xs := [(k : Int)]) (inner := [.int .i64 k]) (okp := fun _ => True) (ok := fun _ => True) ?_ (Kd.reps_scalar [(k : Int)]) (fun _ _ => trivial) trivial hM.bel hM.sz (by simp) ?_
          · first | (go_simp; done) | (go_simp; rfl)
          intro v1 V1 hR1 hB1 hg1 hat1
          have hM1 := hM.lit3 hR1 hB1 hg1
          refine hK.out _ _ (fun _ => hM1.cells) ?_
          have hG := G0111 p0 q0 p1 q1 p2 q2 v1 q3 V1 hM1
          rw [HW.out, HA.out] at hG
          simp only [Act.put, List.setIfInBounds_toArray, List.set_cons_zero, List.set_cons_succ] at hG
          simp only [Act.put, List.setIfInBounds_toArray, List.set_cons_zero, List.set_cons_succ]
          exact hG
        exact AllM.nil
      have G1001 : ∀ (p0 q0 p1 q1 p2 q2 p3 q3 : Value) (V : World), M4 w V N N (.slice Aq k cq) (.slice At k ct) (.slice An k cn) (.slice Af k cf) k 1 0 0 1 p0 q0 p1 q1 p2 q2 p3 q3 → Wp 18 #[true, true, true, true, true, true, true, true, true, true, false, true, true, true, true, false, false, true, true, true, true, false, false, true, true, true, true, true, true, false, false, false, false, false, false, false, false, false, false, false, false, false] ((((((((A.put (some 21) p0).put (some 22) q0).put (some 27) p1).put (some 28) q1).put (some 33) p2).put (some 34) q2).put (some 40) p3).put (some 41) q3) V := by
        intro p0 q0 p1 q1 p2 q2 p3 q3 V hM
        have hRo : Rq.kd.R 60 V N (fun _ => True) (.slice Aq k cq) (List.replicate k Rq.nil) := hM.f0.1
        have hRp : Rq.kd.R 60 V N (fun _ => True) p0 [Rq.nil] := hM.f0.2
        obtain ⟨A1, c1, hp⟩ := Kd.R_slice hRp
        subst hp
        have hC1 := (Kd.R_reads' hRp).2.2
        rw [HW.out, HA.out]
        simp only [Act.put, List.setIfInBounds_toArray, List.set_cons_zero, List.set_cons_succ]
        refine wpM_ready (rs := [10, 15, 21]) (by kernel_rfl) (by simp) ?_
        refine AllM.cons (o := ⟨some 22, _, _, _, _, _⟩) rfl (fun K hK => ?_) ?_
        · refine Kd.R_append_rows_step Rq.kd (Rr := Rq.kd.K V) (w0 := w) N (by rfl) (.tmp 19) (.tmp 21) 94 60 (.agg #[.int .u64 0, .int .i64 0, .int .i64 0, .int .i64 0, .int .i64 0]) 40 (by rfl) Try.underlying94 (by kernel_rfl) (by rfl) (by decide) (by omega) (.slice Aq k cq) (List.replicate k Rq.nil) [Rq.nil] A1 1 c1 (fun _ => True) (fun _ => False) (by kernel_rfl) (by kernel_rfl) hRo hC1 (fun _ _ h => h) (fun _ hk => hk.elim) (fun _ _ => trivial) hM.bel hM.sz (by simp only [List.length_replicate, upTo_len]; omega) ?_
          intro v1 V1 hR1 hB1 hg1 hat1
          have hM1 := hM.app0 hR1 hB1 hg1
          refine hK.out _ _ (fun _ => hM1.cells) ?_
          have hG := G2001 _ v1 p1 q1 p2 q2 p3 q3 V1 hM1
          rw [HW.out, HA.out] at hG
          simp only [Act.put, List.setIfInBounds_toArray, List.set_cons_zero, List.set_cons_succ] at hG
          simp only [Act.put, List.setIfInBounds_toArray, List.set_cons_zero, List.set_cons_succ]
          exact hG
        refine AllM.cons (o := ⟨some 27, _, _, _, _, _⟩) rfl (fun K hK => ?_) ?_
        · refine Kd.R_lit_step Kd.bool (w0 := w) N 4 (by rfl) (N := 27) rfl (xs := [false]) (inner := [.bool false]) (okp := fun _ => True) (ok := fun _ => True) ?_ (Kd.reps_scalar [false]) (fun _ _ => trivial) trivial hM.bel hM.sz (by simp) ?_
          · first | (go_simp; done) | (go_simp; rfl)
          intro v1 V1 hR1 hB1 hg1 hat1
          have hM1 := hM.lit1 hR1 hB1 hg1
          refine hK.out _ _ (fun _ => hM1.cells) ?_
          have hG := G1101 _ q0 v1 q1 p2 q2 p3 q3 V1 hM1
          rw [HW.out, HA.out] at hG
          simp only [Act.put, List.setIfInBounds_toArray, List.set_cons_zero, List.set_cons_succ] at hG
          simp only [Act.put, List.setIfInBounds_toArray, List.set_cons_zero, List.set_cons_succ]
          exact hG
        refine AllM.cons (o := ⟨some 33, _, _, _, _, _⟩) rfl (fun K hK => ?_) ?_
        · refine Kd.R_lit_step (Kd.int .u64) (w0 := w) N 28 (by rfl) (N := 33) rfl (xs := [(0 : Int)]) (inner := [.int .u64 0]) (okp := fun _ => True) (ok := fun _ => True) ?_ (Kd.reps_scalar [(0 : Int)]) (fun _ _ => trivial) trivial hM.bel hM.sz (by simp) ?_
          · first | (go_simp; done) | (go_simp; rfl)
          intro v1 V1 hR1 hB1 hg1 hat1
          have hM1 := hM.lit2 hR1 hB1 hg1
          refine hK.out _ _ (fun _ => hM1.cells) ?_
          have hG := G1011 _ q0 p1 q1 v1 q2 p3 q3 V1 hM1
          rw [HW.out, HA.out] at hG
          simp only [Act.put, List.setIfInBounds_toArray, List.set_cons_zero, List.set_cons_succ] at hG
          simp only [Act.put, List.setIfInBounds_toArray, List.set_cons_zero, List.set_cons_succ]
          exact hG
        exact AllM.nil
      have G1010 : ∀ (p0 q0 p1 q1 p2 q2 p3 q3 : Value) (V : World), M4 w V N N (.slice Aq k cq) (.slice At k ct) (.slice An k cn) (.slice Af k cf) k 1 0 1 0 p0 q0 p1 q1 p2 q2 p3 q3 → Wp 18 #[true, true, true, true, true, true, true, true, true, true, false, true, true, true, true, false, false, true, true, true, true, true, false, true, true, true, true, true, false, false, false, false, false, false, false, false, false, false, false, false, false, false] ((((((((A.put (some 21) p0).put (some 22) q0).put (some 27) p1).put (some 28) q1).put (some 33) p2).put (some 34) q2).put (some 40) p3).put (some 41) q3) V := by
        intro p0 q0 p1 q1 p2 q2 p3 q3 V hM
        have hRo : Rq.kd.R 60 V N (fun _ => True) (.slice Aq k cq) (List.replicate k Rq.nil) := hM.f0.1
        have hRp : Rq.kd.R 60 V N (fun _ => True) p0 [Rq.nil] := hM.f0.2
        obtain ⟨A1, c1, hp⟩ := Kd.R_slice hRp
        subst hp
        have hC1 := (Kd.R_reads' hRp).2.2
        rw [HW.out, HA.out]
        simp only [Act.put, List.setIfInBounds_toArray, List.set_cons_zero, List.set_cons_succ]
        refine wpM_ready (rs := [10, 15, 28]) (by kernel_rfl) (by simp) ?_
        refine AllM.cons (o := ⟨some 22, _, _, _, _, _⟩) rfl (fun K hK => ?_) ?_
        · refine Kd.R_append_rows_step Rq.kd (Rr := Rq.kd.K V) (w0 := w) N (by rfl) (.tmp 19) (.tmp 21) 94 60 (.agg #[.int .u64 0, .int .i64 0, .int .i64 0, .int .i64 0, .int .i64 0]) 40 (by rfl) Try.underlying94 (by kernel_rfl) (by rfl) (by decide) (by omega) (.slice Aq k cq) (List.replicate k Rq.nil) [Rq.nil] A1 1 c1 (fun _ => True) (fun _ => False) (by kernel_rfl) (by kernel_rfl) hRo hC1 (fun _ _ h => h) (fun _ hk => hk.elim) (fun _ _ => trivial) hM.bel hM.sz (by simp only [List.length_replicate, upTo_len]; omega) ?_
          intro v1 V1 hR1 hB1 hg1 hat1
          have hM1 := hM.app0 hR1 hB1 hg1
          refine hK.out _ _ (fun _ => hM1.cells) ?_
          have hG := G2010 _ v1 p1 q1 p2 q2 p3 q3 V1 hM1
          rw [HW.out, HA.out] at hG
          simp only [Act.put, List.setIfInBounds_toArray, List.set_cons_zero, List.set_cons_succ] at hG
          simp only [Act.put, List.setIfInBounds_toArray, List.set_cons_zero, List.set_cons_succ]
          exact hG
        refine AllM.cons (o := ⟨some 27, _, _, _, _, _⟩) rfl (fun K hK => ?_) ?_
        · refine Kd.R_lit_step Kd.bool (w0 := w) N 4 (by rfl) (N := 27) rfl (xs := [false]) (inner := [.bool false]) (okp := fun _ => True) (ok := fun _ => True) ?_ (Kd.reps_scalar [false]) (fun _ _ => trivial) trivial hM.bel hM.sz (by simp) ?_
          · first | (go_simp; done) | (go_simp; rfl)
          intro v1 V1 hR1 hB1 hg1 hat1
          have hM1 := hM.lit1 hR1 hB1 hg1
          refine hK.out _ _ (fun _ => hM1.cells) ?_
          have hG := G1110 _ q0 v1 q1 p2 q2 p3 q3 V1 hM1
          rw [HW.out, HA.out] at hG
          simp only [Act.put, List.setIfInBounds_toArray, List.set_cons_zero, List.set_cons_succ] at hG
          simp only [Act.put, List.setIfInBounds_toArray, List.set_cons_zero, List.set_cons_succ]
          exact hG
        refine AllM.cons (o := ⟨some 40, _, _, _, _, _⟩) rfl (fun K hK => ?_) ?_
        · refine Kd.R_lit_step (Kd.int .i64) (w0 := w) N 3 (by rfl) (N := 40) rfl (xs := [(k : Int)]) (inner := [.int .i64 k]) (okp := fun _ => True) (ok := fun _ => True) ?_ (Kd.reps_scalar [(k : Int)]) (fun _ _ => trivial) trivial hM.bel hM.sz (by simp) ?_
          · first | (go_simp; done) | (go_simp; rfl)
          intro v1 V1 hR1 hB1 hg1 hat1
          have hM1 := hM.lit3 hR1 hB1 hg1
          refine hK.out _ _ (fun _ => hM1.cells) ?_
          have hG := G1011 _ q0 p1 q1 p2 q2 v1 q3 V1 hM1
          rw [HW.out, HA.out] at hG
          simp only [Act.put, List.setIfInBounds_toArray, List.set_cons_zero, List.set_cons_succ] at hG
          simp only [Act.put, List.setIfInBounds_toArray, List.set_cons_zero, List.set_cons_succ]
          exact hG
        exact AllM.nil
      have G1100 : ∀ (p0 q0 p1 q1 p2 q2 p3 q3 : Value) (V : World), M4 w V N N (.slice Aq k cq) (.slice At k ct) (.slice An k cn) (.slice Af k cf) k 1 1 0 0 p0 q0 p1 q1 p2 q2 p3 q3 → Wp 18 #[true, true, true, true, true, true, true, true, true, true, false, true, true, true, true, true, false, true, true, true, true, false, false, true, true, true, true, true, false, false, false, false, false, false, false, false, false, false, false, false, false, false] ((((((((A.put (some 21) p0).put (some 22) q0).put (some 27) p1).put (some 28) q1).put (some 33) p2).put (some 34) q2).put (some 40) p3).put (some 41) q3) V := by
        intro p0 q0 p1 q1 p2 q2 p3 q3 V hM
        have hRo : Rq.kd.R 60 V N (fun _ => True) (.slice Aq k cq) (List.replicate k Rq.nil) := hM.f0.1
        have hRp : Rq.kd.R 60 V N (fun _ => True) p0 [Rq.nil] := hM.f0.2
        obtain ⟨A1, c1, hp⟩ := Kd.R_slice hRp
        subst hp
        have hC1 := (Kd.R_reads' hRp).2.2
        rw [HW.out, HA.out]
        simp only [Act.put, List.setIfInBounds_toArray, List.set_cons_zero, List.set_cons_succ]
        refine wpM_ready (rs := [10, 21, 28]) (by kernel_rfl) (by simp) ?_
        refine AllM.cons (o := ⟨some 22, _, _, _, _, _⟩) rfl (fun K hK => ?_) ?_
        · refine Kd.R_append_rows_step Rq.kd (Rr := Rq.kd.K V) (w0 := w) N (by rfl) (.tmp 19) (.tmp 21) 94 60 (.agg #[.int .u64 0, .int .i64 0, .int .i64 0, .int .i64 0, .int .i64 0]) 40 (by rfl) Try.underlying94 (by kernel_rfl) (by rfl) (by decide) (by omega) (.slice Aq k cq) (List.replicate k Rq.nil) [Rq.nil] A1 1 c1 (fun _ => True) (fun _ => False) (by kernel_rfl) (by kernel_rfl) hRo hC1 (fun _ _ h => h) (fun _ hk => hk.elim) (fun _ _ => trivial) hM.bel hM.sz (by simp only [List.length_replicate, upTo_len]; omega) ?_
          intro v1 V1 hR1 hB1 hg1 hat1
          have hM1 := hM.app0 hR1 hB1 hg1
          refine hK.out _ _ (fun _ => hM1.cells) ?_
          have hG := G2100 _ v1 p1 q1 p2 q2 p3 q3 V1 hM1
          rw [HW.out, HA.out] at hG
          simp only [Act.put, List.setIfInBounds_toArray, List.set_cons_zero, List.set_cons_succ] at hG
          simp only [Act.put, List.setIfInBounds_toArray, List.set_cons_zero, List.set_cons_succ]
          exact hG
        refine AllM.cons (o := ⟨some 33, _, _, _, _, _⟩) rfl (fun K hK => ?_) ?_
        · refine Kd.R_lit_step (Kd.int .u64) (w0 := w) N 28 (by rfl) (N := 33) rfl (xs := [(0 : Int)]) (inner := [.int .u64 0]) (okp := fun _ => True) (ok := fun _ => True) ?_ (Kd.reps_scalar [(0 : Int)]) (fun _ _ => trivial) trivial hM.bel hM.sz (by simp) ?_
          · first | (go_simp; done) | (go_simp; rfl)
          intro v1 V1 hR1 hB1 hg1 hat1
          have hM1 := hM.lit2 hR1 hB1 hg1
          refine hK.out _ _ (fun _ => hM1.cells) ?_
          have hG := G1110 _ q0 p1 q1 v1 q2 p3 q3 V1 hM1
          rw [HW.out, HA.out] at hG
          simp only [Act.put, List.setIfInBounds_toArray, List.set_cons_zero, List.set_cons_succ] at hG
          simp only [Act.put, List.setIfInBounds_toArray, List.set_cons_zero, List.set_cons_succ]
          exact hG
        refine AllM.cons (o := ⟨some 40, _, _, _, _, _⟩) rfl (fun K hK => ?_) ?_
        · refine Kd.R_lit_step (Kd.int .i64) (w0 := w) N 3 (by rfl) (N := 40) rfl (xs := [(k : Int)]) (inner := [.int .i64 k]) (okp := fun _ => True) (ok := fun _ => True) ?_ (Kd.reps_scalar [(k : Int)]) (fun _ _ => trivial) trivial hM.bel hM.sz (by simp) ?_
          · first | (go_simp; done) | (go_simp; rfl)
          intro v1 V1 hR1 hB1 hg1 hat1
          have hM1 := hM.lit3 hR1 hB1 hg1
          refine hK.out _ _ (fun _ => hM1.cells) ?_
          have hG := G1101 _ q0 p1 q1 p2 q2 v1 q3 V1 hM1
          rw [HW.out, HA.out] at hG
          simp only [Act.put, List.setIfInBounds_toArray, List.set_cons_zero, List.set_cons_succ] at hG
          simp only [Act.put, List.setIfInBounds_toArray, List.set_cons_zero, List.set_cons_succ]
          exact hG
        exact AllM.nil
      have G2000 : ∀ (p0 q0 p1 q1 p2 q2 p3 q3 : Value) (V : World), M4 w V N N (.slice Aq k cq) (.slice At k ct) (.slice An k cn) (.slice Af k cf) k 2 0 0 0 p0 q0 p1 q1 p2 q2 p3 q3 → Wp 18 #[true, true, true, true, true, true, true, true, true, true, true, true, true, true, true, false, false, true, true, true, true, false, false, true, true, true, true, true, false, false, false, false, false, false, false, false, false, false, false, false, false, false] ((((((((A.put (some 21) p0).put (some 22) q0).put (some 27) p1).put (some 28) q1).put (some 33) p2).put (some 34) q2).put (some 40) p3).put (some 41) q3) V := by
        intro p0 q0 p1 q1 p2 q2 p3 q3 V hM
        rw [HW.out, HA.out]
        simp only [Act.put, List.setIfInBounds_toArray, List.set_cons_zero, List.set_cons_succ]
        refine wpM_ready (rs := [15, 21, 28]) (by kernel_rfl) (by simp) ?_
        refine AllM.cons (o := ⟨some 27, _, _, _, _, _⟩) rfl (fun K hK => ?_) ?_
        · refine Kd.R_lit_step Kd.bool (w0 := w) N 4 (by rfl) (N := 27) rfl (xs := [false]) (inner := [.bool false]) (okp := fun _ => True) (ok := fun _ => True) ?_ (Kd.reps_scalar [false]) (fun _ _ => trivial) trivial hM.bel hM.sz (by simp) ?_
          · first | (go_simp; done) | (go_simp; rfl)
          intro v1 V1 hR1 hB1 hg1 hat1
          have hM1 := hM.lit1 hR1 hB1 hg1
          refine hK.out _ _ (fun _ => hM1.cells) ?_
          have hG := G2100 p0 q0 v1 q1 p2 q2 p3 q3 V1 hM1
          rw [HW.out, HA.out] at hG
          simp only [Act.put, List.setIfInBounds_toArray, List.set_cons_zero, List.set_cons_succ] at hG
          simp only [Act.put, List.setIfInBounds_toArray, List.set_cons_zero, List.set_cons_succ]
          exact hG
        refine AllM.cons (o := ⟨some 33, _, _, _, _, _⟩) rfl (fun K hK => ?_) ?_
        · refine Kd.R_lit_step (Kd.int .u64) (w0 := w) N 28 (by rfl) (N := 33) rfl (xs := [(0 : Int)]) (inner := [.int .u64 0]) (okp := fun _ => True) (ok := fun _ => True) ?_ (Kd.reps_scalar [(0 : Int)]) (fun _ _ => trivial) trivial hM.bel hM.sz (by simp) ?_
          · first | (go_simp; done) | (go_simp; rfl)
          intro v1 V1 hR1 hB1 hg1 hat1
          have hM1 := hM.lit2 hR1 hB1 hg1
          refine hK.out _ _ (fun _ => hM1.cells) ?_
          have hG := G2010 p0 q0 p1 q1 v1 q2 p3 q3 V1 hM1
          rw [HW.out, HA.out] at hG
          simp only [Act.put, List.setIfInBounds_toArray, List.set_cons_zero, List.set_cons_succ] at hG
          simp only [Act.put, List.setIfInBounds_toArray, List.set_cons_zero, List.set_cons_succ]
          exact hG
        refine AllM.cons (o := ⟨some 40, _, _, _, _, _⟩) rfl (fun K hK => ?_) ?_
        · refine Kd.R_lit_step (Kd.int .i64) (w0 := w) N 3 (by rfl) (N := 40) rfl (xs := [(k : Int)]) (inner := [.int .i64 k]) (okp := fun _ => True) (ok := fun _ => True) ?_ (Kd.reps_scalar [(k : Int)]) (fun _ _ => trivial) trivial hM.bel hM.sz (by simp) ?_
          · first | (go_simp; done) | (go_simp; rfl)
          intro v1 V1 hR1 hB1 hg1 hat1
          have hM1 := hM.lit3 hR1 hB1 hg1
          refine hK.out _ _ (fun _ => hM1.cells) ?_
          have hG := G2001 p0 q0 p1 q1 p2 q2 v1 q3 V1 hM1
          rw [HW.out, HA.out] at hG
          simp only [Act.put, List.setIfInBounds_toArray, List.set_cons_zero, List.set_cons_succ] at hG
          simp only [Act.put, List.setIfInBounds_toArray, List.set_cons_zero, List.set_cons_succ]
          exact hG
        exact AllM.nil
      have G0001 : ∀ (p0 q0 p1 q1 p2 q2 p3 q3 : Value) (V : World), M4 w V N N (.slice Aq k cq) (.slice At k ct) (.slice An k cn) (.slice Af k cf) k 0 0 0 1 p0 q0 p1 q1 p2 q2 p3 q3 → Wp 19 #[true, true, true, true, true, true, true, true, true, false, false, true, true, true, true, false, false, true, true, true, true, false, false, true, true, true, true, true, true, false, false, false, false, false, false, false, false, false, false, false, false, false] ((((((((A.put (some 21) p0).put (some 22) q0).put (some 27) p1).put (some 28) q1).put (some 33) p2).put (some 34) q2).put (some 40) p3).put (some 41) q3) V := by
        intro p0 q0 p1 q1 p2 q2 p3 q3 V hM
        rw [HW.out, HA.out]
        simp only [Act.put, List.setIfInBounds_toArray, List.set_cons_zero, List.set_cons_succ]
        refine wpM_ready (rs := [9, 15, 21]) (by kernel_rfl) (by simp) ?_
        refine AllM.cons (o := ⟨some 21, _, _, _, _, _⟩) rfl (fun K hK => ?_) ?_
        · refine Kd.R_lit_step Rq.kd (w0 := w) N 60 (by rfl) (N := 21) rfl (xs := [Rq.nil]) (inner := Rq.nil.enc) (okp := fun _ => True) (ok := fun _ => True) ?_ (reps_fk _ _ Rq.nil) (fun _ _ => trivial) trivial hM.bel hM.sz (by simp) ?_
          · first | (go_simp; done) | (go_simp; rfl)
          intro v1 V1 hR1 hB1 hg1 hat1
          have hM1 := hM.lit0 hR1 hB1 hg1
          refine hK.out _ _ (fun _ => hM1.cells) ?_
          have hG := G1001 v1 q0 p1 q1 p2 q2 p3 q3 V1 hM1
          rw [HW.out, HA.out] at hG
          simp only [Act.put, List.setIfInBounds_toArray, List.set_cons_zero, List.set_cons_succ] at hG
          simp only [Act.put, List.setIfInBounds_toArray, List.set_cons_zero, List.set_cons_succ]
          exact hG
        refine AllM.cons (o := ⟨some 27, _, _, _, _, _⟩) rfl (fun K hK => ?_) ?_
        · refine Kd.R_lit_step Kd.bool (w0 := w) N 4 (by rfl) (N := 27) rfl (xs := [false]) (inner := [.bool false]) (okp := fun _ => True) (ok := fun _ => True) ?_ (Kd.reps_scalar [false]) (fun _ _ => trivial) trivial hM.bel hM.sz (by simp) ?_
          · first | (go_simp; done) | (go_simp; rfl)
          intro v1 V1 hR1 hB1 hg1 hat1
          have hM1 := hM.lit1 hR1 hB1 hg1
          refine hK.out _ _ (fun _ => hM1.cells) ?_
          have hG := G0101 p0 q0 v1 q1 p2 q2 p3 q3 V1 hM1
          rw [HW.out, HA.out] at hG
          simp only [Act.put, List.setIfInBounds_toArray, List.set_cons_zero, List.set_cons_succ] at hG
          simp only [Act.put, List.setIfInBounds_toArray, List.set_cons_zero, List.set_cons_succ]
          exact hG
        refine AllM.cons (o := ⟨some 33, _, _, _, _, _⟩) rfl (fun K hK => ?_) ?_
        · refine Kd.R_lit_step (Kd.int .u64) (w0 := w) N 28 (by rfl) (N := 33) rfl (xs := [(0 : Int)]) (inner := [.int .u64 0]) (okp := fun _ => True) (ok := fun _ => True) ?_ (Kd.reps_scalar [(0 : Int)]) (fun _ _ => trivial) trivial hM.bel hM.sz (by simp) ?_
          · first | (go_simp; done) | (go_simp; rfl)
          intro v1 V1 hR1 hB1 hg1 hat1
          have hM1 := hM.lit2 hR1 hB1 hg1
          refine hK.out _ _ (fun _ => hM1.cells) ?_
          have hG := G0011 p0 q0 p1 q1 v1 q2 p3 q3 V1 hM1
          rw [HW.out, HA.out] at hG
          simp only [Act.put, List.setIfInBounds_toArray, List.set_cons_zero, List.set_cons_succ] at hG
          simp only [Act.put, List.setIfInBounds_toArray, List.set_cons_zero, List.set_cons_succ]
          exact hG
        exact AllM.nil
      have G0010 : ∀ (p0 q0 p1 q1 p2 q2 p3 q3 : Value) (V : World), M4 w V N N (.slice Aq k cq) (.slice At k ct) (.slice An k cn) (.slice Af k cf) k 0 0 1 0 p0 q0 p1 q1 p2 q2 p3 q3 → Wp 19 #[true, true, true, true, true, true, true, true, true, false, false, true, true, true, true, false, false, true, true, true, true, true, false, true, true, true, true, true, false, false, false, false, false, false, false, false, false, false, false, false, false, false] ((((((((A.put (some 21) p0).put (some 22) q0).put (some 27) p1).put (some 28) q1).put (some 33) p2).put (some 34) q2).put (some 40) p3).put (some 41) q3) V := by
        intro p0 q0 p1 q1 p2 q2 p3 q3 V hM
        rw [HW.out, HA.out]
        simp only [Act.put, List.setIfInBounds_toArray, List.set_cons_zero, List.set_cons_succ]
        refine wpM_ready (rs := [9, 15, 28]) (by kernel_rfl) (by simp) ?_
        refine AllM.cons (o := ⟨some 21, _, _, _, _, _⟩) rfl (fun K hK => ?_) ?_
        · refine Kd.R_lit_step Rq.kd (w0 := w) N 60 (by rfl) (N := 21) rfl (xs := [Rq.nil]) (inner := Rq.nil.enc) (okp := fun _ => True) (ok := fun _ => True) ?_ (reps_fk _ _ Rq.nil) (fun _ _ => trivial) trivial hM.bel hM.sz (by simp) ?_
          · first | (go_simp; done) | (go_simp; rfl)
          intro v1 V1 hR1 hB1 hg1 hat1
          have hM1 := hM.lit0 hR1 hB1 hg1
          refine hK.out _ _ (fun _ => hM1.cells) ?_
          have hG := G1010 v1 q0 p1 q1 p2 q2 p3 q3 V1 hM1
          rw [HW.out, HA.out] at hG
          simp only [Act.put, List.setIfInBounds_toArray, List.set_cons_zero, List.set_cons_succ] at hG
          simp only [Act.put, List.setIfInBounds_toArray, List.set_cons_zero, List.set_cons_succ]
          exact hG
        refine AllM.cons (o := ⟨some 27, _, _, _, _, _⟩) rfl (fun K hK => ?_) ?_
        · refine Kd.R_lit_step Kd.bool (w0 := w) N 4 (by rfl) (N := 27) rfl (xs := [false]) (inner := [.bool false]) (okp := fun _ => True) (ok := fun _ => True) ?_ (Kd.reps_scalar [false]) (fun _ _ => trivial) trivial hM.bel hM.sz (by simp) ?_
          · first | (go_simp; done) | (go_simp; rfl)
          intro v1 V1 hR1 hB1 hg1 hat1
          have hM1 := hM.lit1 hR1 hB1 hg1
          refine hK.out _ _ (fun _ => hM1.cells) ?_
          have hG := G0110 p0 q0 v1 q1 p2 q2 p3 q3 V1 hM1
          rw [HW.out, HA.out] at hG
          simp only [Act.put, List.setIfInBounds_toArray, List.set_cons_zero, List.set_cons_succ] at hG
          simp only [Act.put, List.setIfInBounds_toArray, List.set_cons_zero, List.set_cons_succ]
          exact hG
        refine AllM.cons (o := ⟨some 40, _, _, _, _, _⟩) rfl (fun K hK => ?_) ?_
        · refine Kd.R_lit_step (Kd.int .i64) (w0 := w) N 3 (by rfl) (N := 40) rfl (xs := [(k : Int)]) (inner := [.int .i64 k]) (okp := fun _ => True) (ok := fun _ => True) ?_ (Kd.reps_scalar [(k : Int)]) (fun _ _ => trivial) trivial hM.bel hM.sz (by simp) ?_
          · first | (go_simp; done) | (go_simp; rfl)
          intro v1 V1 hR1 hB1 hg1 hat1
          have hM1 := hM.lit3 hR1 hB1 hg1
          refine hK.out _ _ (fun _ => hM1.cells) ?_
          have hG := G0011 p0 q0 p1 q1 p2 q2 v1 q3 V1 hM1
          rw [HW.out, HA.out] at hG
          simp only [Act.put, List.setIfInBounds_toArray, List.set_cons_zero, List.set_cons_succ] at hG
          simp only [Act.put, List.setIfInBounds_toArray, List.set_cons_zero, List.set_cons_succ]
          exact hG
        exact AllM.nil
      have G0100 : ∀ (p0 q0 p1 q1 p2 q2 p3 q3 : Value) (V : World), M4 w V N N (.slice Aq k cq) (.slice At k ct) (.slice An k cn) (.slice Af k cf) k 0 1 0 0 p0 q0 p1 q1 p2 q2 p3 q3 → Wp 19 #[true, true, true, true, true, true, true, true, true, false, false, true, true, true, true, true, false, true, true, true, true, false, false, true, true, true, true, true, false, false, false, false, false, false, false, false, false, false, false, false, false, false] ((((((((A.put (some 21) p0).put (some 22) q0).put (some 27) p1).put (some 28) q1).put (some 33) p2).put (some 34) q2).put (some 40) p3).put (some 41) q3) V := by
        intro p0 q0 p1 q1 p2 q2 p3 q3 V hM
        rw [HW.out, HA.out]
        simp only [Act.put, List.setIfInBounds_toArray, List.set_cons_zero, List.set_cons_succ]
        refine wpM_ready (rs := [9, 21, 28]) (by kernel_rfl) (by simp) ?_
        refine AllM.cons (o := ⟨some 21, _, _, _, _, _⟩) rfl (fun K hK => ?_) ?_
        · refine Kd.R_lit_step Rq.kd (w0 := w) N 60 (by rfl) (N := 21) rfl (xs := [Rq.nil]) (inner := Rq.nil.enc) (okp := fun _ => True) (ok := fun _ => True) ?_ (reps_fk _ _ Rq.nil) (fun _ _ => trivial) trivial hM.bel hM.sz (by simp) ?_
          · first | (go_simp; done) | (go_simp; rfl)
          intro v1 V1 hR1 hB1 hg1 hat1
          have hM1 := hM.lit0 hR1 hB1 hg1
          refine hK.out _ _ (fun _ => hM1.cells) ?_
          have hG := G1100 v1 q0 p1 q1 p2 q2 p3 q3 V1 hM1
          rw [HW.out, HA.out] at hG
          simp only [Act.put, List.setIfInBounds_toArray, List.set_cons_zero, List.set_cons_succ] at hG
          simp only [Act.put, List.setIfInBounds_toArray, List.set_cons_zero, List.set_cons_succ]
          exact hG
        refine AllM.cons (o := ⟨some 33, _, _, _, _, _⟩) rfl (fun K hK => ?_) ?_
        · refine Kd.R_lit_step (Kd.int .u64) (w0 := w) N 28 (by rfl) (N := 33) rfl (xs := [(0 : Int)]) (inner := [.int .u64 0]) (okp := fun _ => True) (ok := fun _ => True) ?_ (Kd.reps_scalar [(0 : Int)]) (fun _ _ => trivial) trivial hM.bel hM.sz (by simp) ?_
          · first | (go_simp; done) | (go_simp; rfl)
          intro v1 V1 hR1 hB1 hg1 hat1
          have hM1 := hM.lit2 hR1 hB1 hg1
          refine hK.out _ _ (fun _ => hM1.cells) ?_
          have hG := G0110 p0 q0 p1 q1 v1 q2 p3 q3 V1 hM1
          rw [HW.out, HA.out] at hG
          simp only [Act.put, List.setIfInBounds_toArray, List.set_cons_zero, List.set_cons_succ] at hG
          simp only [Act.put, List.setIfInBounds_toArray, List.set_cons_zero, List.set_cons_succ]
          exact hG
        refine AllM.cons (o := ⟨some 40, _, _, _, _, _⟩) rfl (fun K hK => ?_) ?_
        · refine Kd.R_lit_step (Kd.int .i64) (w0 := w) N 3 (by rfl) (N := 40) rfl (xs := [(k : Int)]) (inner := [.int .i64 k]) (okp := fun _ => True) (ok := fun _ => True) ?_ (Kd.reps_scalar [(k : Int)]) (fun _ _ => trivial) trivial hM.bel hM.sz (by simp) ?_
          · first | (go_simp; done) | (go_simp; rfl)
          intro v1 V1 hR1 hB1 hg1 hat1
          have hM1 := hM.lit3 hR1 hB1 hg1
          refine hK.out _ _ (fun _ => hM1.cells) ?_
          have hG := G0101 p0 q0 p1 q1 p2 q2 v1 q3 V1 hM1
          rw [HW.out, HA.out] at hG
          simp only [Act.put, List.setIfInBounds_toArray, List.set_cons_zero, List.set_cons_succ] at hG
          simp only [Act.put, List.setIfInBounds_toArray, List.set_cons_zero, List.set_cons_succ]
          exact hG
        exact AllM.nil
      have G1000 : ∀ (p0 q0 p1 q1 p2 q2 p3 q3 : Value) (V : World), M4 w V N N (.slice Aq k cq) (.slice At k ct) (.slice An k cn) (.slice Af k cf) k 1 0 0 0 p0 q0 p1 q1 p2 q2 p3 q3 → Wp 19 #[true, true, true, true, true, true, true, true, true, true, false, true, true, true, true, false, false, true, true, true, true, false, false, true, true, true, true, true, false, false, false, false, false, false, false, false, false, false, false, false, false, false] ((((((((A.put (some 21) p0).put (some 22) q0).put (some 27) p1).put (some 28) q1).put (some 33) p2).put (some 34) q2).put (some 40) p3).put (some 41) q3) V := by
        intro p0 q0 p1 q1 p2 q2 p3 q3 V hM
        have hRo : Rq.kd.R 60 V N (fun _ => True) (.slice Aq k cq) (List.replicate k Rq.nil) := hM.f0.1
        have hRp : Rq.kd.R 60 V N (fun _ => True) p0 [Rq.nil] := hM.f0.2
        obtain ⟨A1, c1, hp⟩ := Kd.R_slice hRp
        subst hp
        have hC1 := (Kd.R_reads' hRp).2.2
        rw [HW.out, HA.out]
        simp only [Act.put, List.setIfInBounds_toArray, List.set_cons_zero, List.set_cons_succ]
        refine wpM_ready (rs := [10, 15, 21, 28]) (by kernel_rfl) (by simp) ?_
        refine AllM.cons (o := ⟨some 22, _, _, _, _, _⟩) rfl (fun K hK => ?_) ?_
        · refine Kd.R_append_rows_step Rq.kd (Rr := Rq.kd.K V) (w0 := w) N (by rfl) (.tmp 19) (.tmp 21) 94 60 (.agg #[.int .u64 0, .int .i64 0, .int .i64 0, .int .i64 0, .int .i64 0]) 40 (by rfl) Try.underlying94 (by kernel_rfl) (by rfl) (by decide) (by omega) (.slice Aq k cq) (List.replicate k Rq.nil) [Rq.nil] A1 1 c1 (fun _ => True) (fun _ => False) (by kernel_rfl) (by kernel_rfl) hRo hC1 (fun _ _ h => h) (fun _ hk => hk.elim) (fun _ _ => trivial) hM.bel hM.sz (by simp only [List.length_replicate, upTo_len]; omega) ?_
          intro v1 V1 hR1 hB1 hg1 hat1
          have hM1 := hM.app0 hR1 hB1 hg1
          refine hK.out _ _ (fun _ => hM1.cells) ?_
          have hG := G2000 _ v1 p1 q1 p2 q2 p3 q3 V1 hM1
          rw [HW.out, HA.out] at hG
          simp only [Act.put, List.setIfInBounds_toArray, List.set_cons_zero, List.set_cons_succ] at hG
          simp only [Act.put, List.setIfInBounds_toArray, List.set_cons_zero, List.set_cons_succ]
          exact hG
        refine AllM.cons (o := ⟨some 27, _, _, _, _, _⟩) rfl (fun K hK => ?_) ?_
        · refine Kd.R_lit_step Kd.bool (w0 := w) N 4 (by rfl) (N := 27) rfl (xs := [false]) (inner := [.bool false]) (okp := fun _ => True) (ok := fun _ => True) ?_ (Kd.reps_scalar [false]) (fun _ _ => trivial) trivial hM.bel hM.sz (by simp) ?_
          · first | (go_simp; done) | (go_simp; rfl)
          intro v1 V1 hR1 hB1 hg1 hat1
          have hM1 := hM.lit1 hR1 hB1 hg1
          refine hK.out _ _ (fun _ => hM1.cells) ?_
          have hG := G1100 _ q0 v1 q1 p2 q2 p3 q3 V1 hM1
          rw [HW.out, HA.out] at hG
          simp only [Act.put, List.setIfInBounds_toArray, List.set_cons_zero, List.set_cons_succ] at hG
          simp only [Act.put, List.setIfInBounds_toArray, List.set_cons_zero, List.set_cons_succ]
          exact hG
        refine AllM.cons (o := ⟨some 33, _, _, _, _, _⟩) rfl (fun K hK => ?_) ?_
        · refine Kd.R_lit_step (Kd.int .u64) (w0 := w) N 28 (by rfl) (N := 33) rfl (xs := [(0 : Int)]) (inner := [.int .u64 0]) (okp := fun _ => True) (ok := fun _ => True) ?_ (Kd.reps_scalar [(0 : Int)]) (fun _ _ => trivial) trivial hM.bel hM.sz (by simp) ?_
          · first | (go_simp; done) | (go_simp; rfl)
          intro v1 V1 hR1 hB1 hg1 hat1
          have hM1 := hM.lit2 hR1 hB1 hg1
          refine hK.out _ _ (fun _ => hM1.cells) ?_
          have hG := G1010 _ q0 p1 q1 v1 q2 p3 q3 V1 hM1
          rw [HW.out, HA.out] at hG
          simp only [Act.put, List.setIfInBounds_toArray, List.set_cons_zero, List.set_cons_succ] at hG
          simp only [Act.put, List.setIfInBounds_toArray, List.set_cons_zero, List.set_cons_succ]
          exact hG
        refine AllM.cons (o := ⟨some 40, _, _, _, _, _⟩) rfl (fun K hK => ?_) ?_
        · refine Kd.R_lit_step (Kd.int .i64) (w0 := w) N 3 (by rfl) (N := 40) rfl (xs := [(k : Int)]) (inner := [.int .i64 k]) (okp := fun _ => True) (ok := fun _ => True) ?_ (Kd.reps_scalar [(k : Int)]) (fun _ _ => trivial) trivial hM.bel hM.sz (by simp) ?_
          · first | (go_simp; done) | (go_simp; rfl)
          intro v1 V1 hR1 hB1 hg1 hat1
          have hM1 := hM.lit3 hR1 hB1 hg1
          refine hK.out _ _ (fun _ => hM1.cells) ?_
          have hG := G1001 _ q0 p1 q1 p2 q2 v1 q3 V1 hM1
          rw [HW.out, HA.out] at hG
          simp only [Act.put, List.setIfInBounds_toArray, List.set_cons_zero, List.set_cons_succ] at hG
          simp only [Act.put, List.setIfInBounds_toArray, List.set_cons_zero, List.set_cons_succ]
          exact hG
        exact AllM.nil
      have G0000 : ∀ (p0 q0 p1 q1 p2 q2 p3 q3 : Value) (V : World), M4 w V N N (.slice Aq k cq) (.slice At k ct) (.slice An k cn) (.slice Af k cf) k 0 0 0 0 p0 q0 p1 q1 p2 q2 p3 q3 → Wp 20 #[true, true, true, true, true, true, true, true, true, false, false, true, true, true, true, false, false, true, true, true, true, false, false, true, true, true, true, true, false, false, false, false, false, false, false, false, false, false, false, false, false, false] ((((((((A.put (some 21) p0).put (some 22) q0).put (some 27) p1).put (some 28) q1).put (some 33) p2).put (some 34) q2).put (some 40) p3).put (some 41) q3) V := by
        intro p0 q0 p1 q1 p2 q2 p3 q3 V hM
        rw [HW.out, HA.out]
        simp only [Act.put, List.setIfInBounds_toArray, List.set_cons_zero, List.set_cons_succ]
        refine wpM_ready (rs := [9, 15, 21, 28]) (by kernel_rfl) (by simp) ?_
        refine AllM.cons (o := ⟨some 21, _, _, _, _, _⟩) rfl (fun K hK => ?_) ?_
        · refine Kd.R_lit_step Rq.kd (w0 := w) N 60 (by rfl) (N := 21) rfl (xs := [Rq.nil]) (inner := Rq.nil.enc) (okp := fun _ => True) (ok := fun _ => True) ?_ (reps_fk _ _ Rq.nil) (fun _ _ => trivial) trivial hM.bel hM.sz (by simp) ?_
          · first | (go_simp; done) | (go_simp; rfl)
          intro v1 V1 hR1 hB1 hg1 hat1
          have hM1 := hM.lit0 hR1 hB1 hg1
          refine hK.out _ _ (fun _ => hM1.cells) ?_
          have hG := G1000 v1 q0 p1 q1 p2 q2 p3 q3 V1 hM1
          rw [HW.out, HA.out] at hG
          simp only [Act.put, List.setIfInBounds_toArray, List.set_cons_zero, List.set_cons_succ] at hG
          simp only [Act.put, List.setIfInBounds_toArray, List.set_cons_zero, List.set_cons_succ]
          exact hG
        refine AllM.cons (o := ⟨some 27, _, _, _, _, _⟩) rfl (fun K hK => ?_) ?_
        · refine Kd.R_lit_step Kd.bool (w0 := w) N 4 (by rfl) (N := 27) rfl (xs := [false]) (inner := [.bool false]) (okp := fun _ => True) (ok := fun _ => True) ?_ (Kd.reps_scalar [false]) (fun _ _ => trivial) trivial hM.bel hM.sz (by simp) ?_
          · first | (go_simp; done) | (go_simp; rfl)
          intro v1 V1 hR1 hB1 hg1 hat1
          have hM1 := hM.lit1 hR1 hB1 hg1
          refine hK.out _ _ (fun _ => hM1.cells) ?_
          have hG := G0100 p0 q0 v1 q1 p2 q2 p3 q3 V1 hM1
          rw [HW.out, HA.out] at hG
          simp only [Act.put, List.setIfInBounds_toArray, List.set_cons_zero, List.set_cons_succ] at hG
          simp only [Act.put, List.setIfInBounds_toArray, List.set_cons_zero, List.set_cons_succ]
          exact hG
        refine AllM.cons (o := ⟨some 33, _, _, _, _, _⟩) rfl (fun K hK => ?_) ?_
        · refine Kd.R_lit_step (Kd.int .u64) (w0 := w) N 28 (by rfl) (N := 33) rfl (xs := [(0 : Int)]) (inner := [.int .u64 0]) (okp := fun _ => True) (ok := fun _ => True) ?_ (Kd.reps_scalar [(0 : Int)]) (fun _ _ => trivial) trivial hM.bel hM.sz (by simp) ?_
          · first | (go_simp; done) | (go_simp; rfl)
          intro v1 V1 hR1 hB1 hg1 hat1
          have hM1 := hM.lit2 hR1 hB1 hg1
          refine hK.out _ _ (fun _ => hM1.cells) ?_
          have hG := G0010 p0 q0 p1 q1 v1 q2 p3 q3 V1 hM1
          rw [HW.out, HA.out] at hG
          simp only [Act.put, List.setIfInBounds_toArray, List.set_cons_zero, List.set_cons_succ] at hG
          simp only [Act.put, List.setIfInBounds_toArray, List.set_cons_zero, List.set_cons_succ]
          exact hG
        refine AllM.cons (o := ⟨some 40, _, _, _, _, _⟩) rfl (fun K hK => ?_) ?_
        · refine Kd.R_lit_step (Kd.int .i64) (w0 := w) N 3 (by rfl) (N := 40) rfl (xs := [(k : Int)]) (inner := [.int .i64 k]) (okp := fun _ => True) (ok := fun _ => True) ?_ (Kd.reps_scalar [(k : Int)]) (fun _ _ => trivial) trivial hM.bel hM.sz (by simp) ?_
          · first | (go_simp; done) | (go_simp; rfl)
          intro v1 V1 hR1 hB1 hg1 hat1
          have hM1 := hM.lit3 hR1 hB1 hg1
          refine hK.out _ _ (fun _ => hM1.cells) ?_
          have hG := G0001 p0 q0 p1 q1 p2 q2 v1 q3 V1 hM1
          rw [HW.out, HA.out] at hG
          simp only [Act.put, List.setIfInBounds_toArray, List.set_cons_zero, List.set_cons_succ] at hG
          simp only [Act.put, List.setIfInBounds_toArray, List.set_cons_zero, List.set_cons_succ]
          exact hG
        exact AllM.nil
      have hM0 := HM0.out
      have hM1 : M4 w U N N (.slice Aq k cq) (.slice At k ct) (.slice An k cn) (.slice Af k cf) k 0 0 0 0 u21 u22 u27 u28 u33 u34 u40 u41 := ⟨hM0.head, hM0.f0, hM0.f1, hM0.f2, hM0.f3, hM0.bel, hM0.sz⟩
      have hG := G0000 u21 u22 u27 u28 u33 u34 u40 u41 U hM1
      rw [HW.out, HA.out] at hG
      simp only [Act.put, List.setIfInBounds_toArray, List.set_cons_zero, List.set_cons_succ] at hG
      rw [HW.out, HA.out]
      exact hG
    · obtain rfl : k = n := by omega
      have HE := Aside0.mk (And.intro hS (And.intro hB hN))
      clear hS hB hN
      go_wp2_with (fail)
      go_ret
      have e := HE.out.2.2
      exact ⟨N, _, _, _, _, rfl, by rw [← e]; exact HE.out.1, by rw [← e]; exact Nat.le_refl _, by rw [← e]; exact HE.out.2.1⟩
end Go.Proofs.Ytifffmfbipjilaa.Z
