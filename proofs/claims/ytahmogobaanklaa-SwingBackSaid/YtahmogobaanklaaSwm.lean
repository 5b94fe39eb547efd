/- Points as complex numbers; what the control's way tells of points. -/
import Derived.Test.YtahmogobaanklaaFint
import Derived.Test.YtahmogobaanklaaZlib
import Derived.Test.YtahmogobaanklaaWMore
namespace Go.Proofs.Ytahmogobaanklaa.Z
open Go Go.RowKit Go.Proofs.YtahmogobaanklaaW Go.Proofs.YtahmogobaanklaaW.PrintWords
set_option linter.unusedVariables false
structure CB where
  re : Nat
  im : Nat
def CB.val (c : CB) : Value := .complex .f64 c.re c.im
def CB.kd : Kd CB := Kd.scalar CB.val (fun _ => rfl)
structure Pt where
  u : Int
  v : Int
  deriving DecidableEq
def CB.pt (c : CB) : Pt := ⟨fval c.re, fval c.im⟩
/-- Both parts stand for whole numbers of at most B. -/
structure CB.Is (c : CB) (p : Pt) : Prop where
  re : FI c.re p.u
  im : FI c.im p.v
theorem CB.Is.pt {c : CB} {p : Pt} (h : c.Is p) : c.pt = p := by
  unfold CB.pt; rw [h.re.val, h.im.val]
def Pt.le (p : Pt) (B : Nat) : Prop := p.u.natAbs ≤ B ∧ p.v.natAbs ≤ B
def CB.fits (c : CB) (B : Nat) : Prop := c.Is c.pt ∧ c.pt.le B
theorem CB.Is.fits {c : CB} {p : Pt} {B : Nat} (h : c.Is p) (hb : p.le B) : c.fits B := by
  unfold CB.fits; rw [h.pt]; exact ⟨h, hb⟩
theorem CB.fits.mono {c : CB} {B B' : Nat} (h : c.fits B) (hb : B ≤ B') : c.fits B' := ⟨h.1, Nat.le_trans h.2.1 hb, Nat.le_trans h.2.2 hb⟩
def crs (p q : Pt) : Int := p.u * q.v - p.v * q.u
def Pt.sub (p q : Pt) : Pt := ⟨p.u - q.u, p.v - q.v⟩
def Pt.add (p q : Pt) : Pt := ⟨p.u + q.u, p.v + q.v⟩
def Pt.turned (p : Pt) : Pt := ⟨-p.v, p.u⟩
def sqr (p : Pt) : Int := p.u * p.u + p.v * p.v
theorem mul_le {x y : Int} {A B : Nat} (h : x.natAbs ≤ A) (k : y.natAbs ≤ B) : (x * y).natAbs ≤ A * B := by
  rw [Int.natAbs_mul]; exact Nat.mul_le_mul h k
theorem crs_le {p q : Pt} {A B : Nat} (h : p.le A) (k : q.le B) : (crs p q).natAbs ≤ 2 * (A * B) := by
  have h1 := mul_le h.1 k.2
  have h2 := mul_le h.2 k.1
  unfold crs; omega
theorem sqr_le {p : Pt} {A : Nat} (h : p.le A) : (sqr p).natAbs ≤ 2 * (A * A) ∧ 0 ≤ sqr p := by
  have h1 := mul_le h.1 h.1
  have h2 := mul_le h.2 h.2
  have h3 : 0 ≤ p.u * p.u := by rw [← Int.natAbs_mul_self]; exact Int.natCast_nonneg _
  have h4 : 0 ≤ p.v * p.v := by rw [← Int.natAbs_mul_self]; exact Int.natCast_nonneg _
  unfold sqr; omega
theorem Pt.sub_le {p q : Pt} {A B : Nat} (h : p.le A) (k : q.le B) : (p.sub q).le (A + B) := by
  obtain ⟨h1, h2⟩ := h
  obtain ⟨k1, k2⟩ := k
  constructor
  · show (p.u - q.u).natAbs ≤ _; omega
  · show (p.v - q.v).natAbs ≤ _; omega
theorem Pt.add_le {p q : Pt} {A B : Nat} (h : p.le A) (k : q.le B) : (p.add q).le (A + B) := by
  obtain ⟨h1, h2⟩ := h
  obtain ⟨k1, k2⟩ := k
  constructor
  · show (p.u + q.u).natAbs ≤ _; omega
  · show (p.v + q.v).natAbs ≤ _; omega
/-! The sums and products of such numbers. -/
theorem cmul_bits {a b c d : Nat} {x y z t : Int} (ha : FI a x) (hb : FI b y) (hc : FI c z) (hd : FI d t) (bx : x.natAbs ≤ 16777216) (by_ : y.natAbs ≤ 16777216) (bz : z.natAbs ≤ 16777216) (bt : t.natAbs ≤ 16777216) :
    ∃ re im, cMulBits a b c d = some (re, im) ∧ FI re (x * z - y * t) ∧ FI im (x * t + y * z) := by
  have m1 := mul_le bx bz
  have m2 := mul_le by_ bt
  have m3 := mul_le bx bt
  have m4 := mul_le by_ bz
  obtain ⟨p1, e1, f1⟩ := ha.mul hc (by omega)
  obtain ⟨p2, e2, f2⟩ := hb.mul hd (by omega)
  obtain ⟨p3, e3, f3⟩ := ha.mul hd (by omega)
  obtain ⟨p4, e4, f4⟩ := hb.mul hc (by omega)
  obtain ⟨q1, e5, f5⟩ := f1.sub f2 (by omega)
  obtain ⟨q2, e6, f6⟩ := f3.add f4 (by omega)
  refine ⟨q1, q2, ?_, f5, f6⟩
  unfold cMulBits
  simp only [e1, e2, e3, e4, e5, e6, Option.bind_some]
theorem cadd_bits {a b c d : Nat} {x y z t : Int} (ha : FI a x) (hb : FI b y) (hc : FI c z) (hd : FI d t) (bx : x.natAbs ≤ 16777216) (by_ : y.natAbs ≤ 16777216) (bz : z.natAbs ≤ 16777216) (bt : t.natAbs ≤ 16777216) :
    ∃ re im, cSumBits .add .f64 a b c d = some (re, im) ∧ FI re (x + z) ∧ FI im (y + t) := by
  obtain ⟨q1, e5, f5⟩ := ha.add hc (by omega)
  obtain ⟨q2, e6, f6⟩ := hb.add hd (by omega)
  refine ⟨q1, q2, ?_, f5, f6⟩
  unfold cSumBits
  simp only [e5, e6, Option.bind_some]
theorem csub_bits {a b c d : Nat} {x y z t : Int} (ha : FI a x) (hb : FI b y) (hc : FI c z) (hd : FI d t) (bx : x.natAbs ≤ 16777216) (by_ : y.natAbs ≤ 16777216) (bz : z.natAbs ≤ 16777216) (bt : t.natAbs ≤ 16777216) :
    ∃ re im, cSumBits .sub .f64 a b c d = some (re, im) ∧ FI re (x - z) ∧ FI im (y - t) := by
  obtain ⟨q1, e5, f5⟩ := ha.sub hc (by omega)
  obtain ⟨q2, e6, f6⟩ := hb.sub hd (by omega)
  refine ⟨q1, q2, ?_, f5, f6⟩
  unfold cSumBits
  simp only [e5, e6, Option.bind_some]
theorem mul_run {P : Program} {T : TypeId} {a b : CB} {p q : Pt} (ha : a.Is p) (hb : b.Is q) (hp : p.le 16777216) (hq : q.le 16777216) :
    ∃ c : CB, (∀ W, (binOp .mul T (.complex .f64 a.re a.im) (.complex .f64 b.re b.im)).run P W = .ok (.complex .f64 c.re c.im) W) ∧ c.Is ⟨p.u * q.u - p.v * q.v, p.u * q.v + p.v * q.u⟩ := by
  obtain ⟨re, im, h, f1, f2⟩ := cmul_bits ha.re ha.im hb.re hb.im hp.1 hp.2 hq.1 hq.2
  exact ⟨⟨re, im⟩, fun W => run_complex_mul W T _ _ _ _ _ _ h, f1, f2⟩
theorem add_run {P : Program} {T : TypeId} {a b : CB} {p q : Pt} (ha : a.Is p) (hb : b.Is q) (hp : p.le 16777216) (hq : q.le 16777216) :
    ∃ c : CB, (∀ W, (binOp .add T (.complex .f64 a.re a.im) (.complex .f64 b.re b.im)).run P W = .ok (.complex .f64 c.re c.im) W) ∧ c.Is (p.add q) := by
  obtain ⟨re, im, h, f1, f2⟩ := cadd_bits ha.re ha.im hb.re hb.im hp.1 hp.2 hq.1 hq.2
  exact ⟨⟨re, im⟩, fun W => run_complex_sum W .add (.inl rfl) T .f64 _ _ _ _ _ _ h, f1, f2⟩
theorem sub_run {P : Program} {T : TypeId} {a b : CB} {p q : Pt} (ha : a.Is p) (hb : b.Is q) (hp : p.le 16777216) (hq : q.le 16777216) :
    ∃ c : CB, (∀ W, (binOp .sub T (.complex .f64 a.re a.im) (.complex .f64 b.re b.im)).run P W = .ok (.complex .f64 c.re c.im) W) ∧ c.Is (p.sub q) := by
  obtain ⟨re, im, h, f1, f2⟩ := csub_bits ha.re ha.im hb.re hb.im hp.1 hp.2 hq.1 hq.2
  exact ⟨⟨re, im⟩, fun W => run_complex_sum W .sub (.inr rfl) T .f64 _ _ _ _ _ _ h, f1, f2⟩
theorem int_run {b : Nat} {n : Int} (h : FI b n) (hb : n.natAbs ≤ 9007199254740992) : ∀ W, (convert 26 2 (.float .f64 b)).run Try.prog W = .ok (.int .i64 n) W := fun W =>
  run_convert_float_int W _ _ .f64 .i64 b n (by kernel_rfl) (by kernel_rfl) (h.whole (by omega) (by omega))
def CB.conj (c : CB) : CB := ⟨c.re, Op.negFloat .f64 c.im⟩
theorem CB.Is.conj {c : CB} {p : Pt} (h : c.Is p) : c.conj.Is ⟨p.u, -p.v⟩ := ⟨h.re, h.im.neg⟩
theorem cb_came {w : World} {ad : Addr} {n : Nat} {xs : List CB} (h : CB.kd.C w (some ad) n xs) {i : Nat} {x : CB} (hx : xs[i]? = some x) : w.cell? (ad.add i) = some (.complex .f64 x.re x.im) := by
  have hi : i < xs.length := (List.getElem?_eq_some_iff.1 hx).1
  obtain ⟨hn, _, hc⟩ := h
  obtain ⟨ad', e, hc⟩ := hc (by omega)
  obtain rfl : ad = ad' := by injection e
  obtain ⟨c, hcl, hK, hcc⟩ := hc i x hx
  obtain rfl : c = [CB.val x] := hK
  have := hcc 0 _ rfl
  rwa [Nat.add_zero, show CB.kd.sz = 1 from rfl, Nat.mul_one] at this
/-- The words of a product, a sum, a difference. -/
def mulB (a b : CB) : CB := match cMulBits a.re a.im b.re b.im with | some (re, im) => ⟨re, im⟩ | none => a
def addB (a b : CB) : CB := match cSumBits .add .f64 a.re a.im b.re b.im with | some (re, im) => ⟨re, im⟩ | none => a
theorem mulB_run {P : Program} {T : TypeId} {a b : CB} {p q : Pt} (ha : a.Is p) (hb : b.Is q) (hp : p.le 16777216) (hq : q.le 16777216) :
    (∀ W, (binOp .mul T (.complex .f64 a.re a.im) (.complex .f64 b.re b.im)).run P W = .ok (.complex .f64 (mulB a b).re (mulB a b).im) W) ∧ (mulB a b).Is ⟨p.u * q.u - p.v * q.v, p.u * q.v + p.v * q.u⟩ := by
  obtain ⟨re, im, h, f1, f2⟩ := cmul_bits ha.re ha.im hb.re hb.im hp.1 hp.2 hq.1 hq.2
  have e : mulB a b = ⟨re, im⟩ := by unfold mulB; rw [h]
  rw [e]
  exact ⟨fun W => run_complex_mul W T _ _ _ _ _ _ h, f1, f2⟩
theorem addB_run {P : Program} {T : TypeId} {a b : CB} {p q : Pt} (ha : a.Is p) (hb : b.Is q) (hp : p.le 16777216) (hq : q.le 16777216) :
    (∀ W, (binOp .add T (.complex .f64 a.re a.im) (.complex .f64 b.re b.im)).run P W = .ok (.complex .f64 (addB a b).re (addB a b).im) W) ∧ (addB a b).Is (p.add q) := by
  obtain ⟨re, im, h, f1, f2⟩ := cadd_bits ha.re ha.im hb.re hb.im hp.1 hp.2 hq.1 hq.2
  have e : addB a b = ⟨re, im⟩ := by unfold addB; rw [h]
  rw [e]
  exact ⟨fun W => run_complex_sum W .add (.inl rfl) T .f64 _ _ _ _ _ _ h, f1, f2⟩
/-- 1i -/
def CB.i : CB := ⟨0, 4607182418800017408⟩
theorem CB.i_is : CB.i.Is ⟨0, 1⟩ := ⟨FI.zero, FI.one⟩
def turnB (c : CB) : CB := mulB c CB.i
theorem turnB_is {c : CB} {p : Pt} (h : c.Is p) (hp : p.le 16777216) : (turnB c).Is p.turned := by
  have := (mulB_run (P := Try.prog) (T := 0) h CB.i_is hp ⟨by simp, by simp⟩).2
  have e : (⟨p.u * 0 - p.v * 1, p.u * 1 + p.v * 0⟩ : Pt) = p.turned := by unfold Pt.turned; congr 1 <;> omega
  rw [← e]; exact this
theorem min2_FI {a b : Nat} {x y : Int} (ha : FI a x) (hb : FI b y) : ∃ r, Builtin.min2 (.float .f64 a) (.float .f64 b) = pure (.float .f64 r) ∧ FI r (min x y) := by
  have ho := ha.order hb
  rw [cmp_int] at ho
  unfold Builtin.min2
  simp only
  rw [ho]
  by_cases h1 : x < y
  · rw [if_pos h1]; exact ⟨a, rfl, by rw [Int.min_eq_left (by omega)]; exact ha⟩
  · rw [if_neg h1]
    by_cases h2 : x = y
    · rw [if_pos h2]
      subst h2
      rw [Int.min_self]
      exact ⟨_, rfl, by split <;> assumption⟩
    · rw [if_neg h2]; exact ⟨b, rfl, by rw [Int.min_eq_right (by omega)]; exact hb⟩
theorem max2_FI {a b : Nat} {x y : Int} (ha : FI a x) (hb : FI b y) : ∃ r, Builtin.max2 (.float .f64 a) (.float .f64 b) = pure (.float .f64 r) ∧ FI r (max x y) := by
  have ho := ha.order hb
  rw [cmp_int] at ho
  unfold Builtin.max2
  simp only
  rw [ho]
  by_cases h1 : x < y
  · rw [if_pos h1]; exact ⟨b, rfl, by rw [Int.max_eq_right (by omega)]; exact hb⟩
  · rw [if_neg h1]
    by_cases h2 : x = y
    · rw [if_pos h2]
      subst h2
      rw [Int.max_self]
      exact ⟨_, rfl, by split <;> assumption⟩
    · rw [if_neg h2]; exact ⟨a, rfl, by rw [Int.max_eq_left (by omega)]; exact ha⟩
/-- The greatest square of a distance. -/
def farS (p : Pt) (m : Int) (q : Pt) : Int := if m < sqr (q.sub p) then sqr (q.sub p) else m
def farL (p : Pt) (l : List Pt) : Int := l.foldl (farS p) 0
theorem farL_snoc (p : Pt) (l : List Pt) (q : Pt) : farL p (l ++ [q]) = farS p (farL p l) q := by simp [farL, List.foldl_append]
theorem farL_le {p : Pt} {B : Nat} : ∀ (l : List Pt) (m : Int), 0 ≤ m → m ≤ B → (∀ q ∈ l, sqr (q.sub p) ≤ B) → 0 ≤ l.foldl (farS p) m ∧ l.foldl (farS p) m ≤ B
  | [], m, h0, h1, _ => ⟨h0, h1⟩
  | q :: l, m, h0, h1, h => by
    have hq := h q (List.mem_cons_self)
    refine farL_le l (farS p m q) ?_ ?_ (fun x hx => h x (List.mem_cons_of_mem _ hx))
    · unfold farS; split <;> omega
    · unfold farS; split <;> omega
/-! What is summed over a way's steps -/
def step_ (l : List Pt) (k : Nat) : Pt × Pt := (l.getD k ⟨0, 0⟩, l.getD ((k + 1) % l.length) ⟨0, 0⟩)
def sumE (f : Pt → Pt → Int) (l : List Pt) : Nat → Int
  | 0 => 0
  | k + 1 => sumE f l k + f (step_ l k).1 (step_ l k).2
def area (l : List Pt) : Int := sumE crs l l.length
/-- A step's share of the turns about 0. -/
def trn0 (a b : Pt) : Int := if a.v ≤ 0 ∧ 0 < b.v ∧ 0 < crs a b then 1 else if 0 < a.v ∧ b.v ≤ 0 ∧ crs a b < 0 then -1 else 0
def trn (p a b : Pt) : Int := trn0 (a.sub p) (b.sub p)
def turns (p : Pt) (l : List Pt) : Int := sumE (trn p) l l.length
theorem step_at {l : List Pt} {k : Nat} {x y : Pt} (hx : l[k]? = some x) (hy : l[(k + 1) % l.length]? = some y) : step_ l k = (x, y) := by
  unfold step_
  rw [List.getD_eq_getElem?_getD, List.getD_eq_getElem?_getD, hx, hy]
  rfl
theorem step_mem {l : List Pt} {k : Nat} (h : k < l.length) : (step_ l k).1 ∈ l ∧ (step_ l k).2 ∈ l := by
  have h2 : (k + 1) % l.length < l.length := Nat.mod_lt _ (by omega)
  rw [step_at (List.getElem?_eq_getElem h) (List.getElem?_eq_getElem h2)]
  exact ⟨List.getElem_mem h, List.getElem_mem h2⟩
theorem sumE_le {f : Pt → Pt → Int} {l : List Pt} {B : Nat} (h : ∀ a ∈ l, ∀ b ∈ l, (f a b).natAbs ≤ B) : ∀ k, k ≤ l.length → (sumE f l k).natAbs ≤ k * B
  | 0, _ => by simp [sumE]
  | k + 1, hk => by
    have ih := sumE_le h k (by omega)
    obtain ⟨h1, h2⟩ := step_mem (l := l) (k := k) (by omega)
    have := h _ h1 _ h2
    rw [sumE, Nat.add_mul]
    omega
theorem trn0_le (a b : Pt) : (trn0 a b).natAbs ≤ 1 := by
  unfold trn0
  split
  · simp
  · split <;> simp
end Go.Proofs.Ytahmogobaanklaa.Z
