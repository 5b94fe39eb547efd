/- A way rotated, gone from behind, moved, turned: plain laws. -/
import Derived.Test.YtahmogobaanklaaSwrv
namespace Go.Proofs.Ytahmogobaanklaa.Z
open Go.RowKit Go.Proofs.YtahmogobaanklaaW.PrintWords Go.Proofs.YtahmogobaanklaaW.PrintLast Go.Proofs.YtahmogobaanklaaW.PrintMore
set_option linter.unusedVariables false
set_option linter.unusedSimpArgs false
def chain (f : Pt → Pt → Int) : List Pt → Int
  | a :: b :: r => f a b + chain f (b :: r)
  | _ => 0
theorem chain_app (f : Pt → Pt → Int) (x : List Pt) (m : Pt) (y : List Pt) : chain f (x ++ m :: y) = chain f (x ++ [m]) + chain f (m :: y) := by
  induction x with
  | nil => simp [chain]
  | cons a x ih =>
    cases x with
    | nil =>
      show chain f (a :: m :: y) = chain f (a :: m :: []) + _
      simp [chain]
    | cons b x =>
      have ih' : chain f (b :: (x ++ m :: y)) = chain f (b :: (x ++ [m])) + chain f (m :: y) := ih
      show f a b + chain f (b :: (x ++ m :: y)) = f a b + chain f (b :: (x ++ [m])) + chain f (m :: y)
      rw [ih']; omega
theorem sumE_take (f : Pt → Pt → Int) (l : List Pt) (s : Pt) (hs : l[0]? = some s) : ∀ k, k ≤ l.length → sumE f l k = chain f ((l ++ [s]).take (k + 1)) := by
  have hpos : 0 < l.length := (List.getElem?_eq_some_iff.1 hs).1
  intro k
  induction k with
  | zero =>
    intro _
    cases l with
    | nil => simp at hpos
    | cons a r => rfl
  | succ k ih =>
    intro hk
    obtain ⟨x, hx⟩ : ∃ x, l[k]? = some x := ⟨_, List.getElem?_eq_getElem (by omega)⟩
    have hx' : (l ++ [s])[k]? = some x := by rw [List.getElem?_append_left (by omega)]; exact hx
    obtain ⟨y, hy, hy'⟩ : ∃ y, (l ++ [s])[k + 1]? = some y ∧ l[(k + 1) % l.length]? = some y := by
      by_cases h : k + 1 < l.length
      · obtain ⟨y, hy⟩ : ∃ y, l[k + 1]? = some y := ⟨_, List.getElem?_eq_getElem h⟩
        exact ⟨y, by rw [List.getElem?_append_left h]; exact hy, by rw [Nat.mod_eq_of_lt h]; exact hy⟩
      · have e : k + 1 = l.length := by omega
        exact ⟨s, by rw [List.getElem?_append_right (by omega), e, Nat.sub_self]; rfl, by rw [e, Nat.mod_self]; exact hs⟩
    rw [sumE, step_at hx hy', ih (by omega)]
    have t1 : (l ++ [s]).take (k + 1) = (l ++ [s]).take k ++ [x] := by rw [List.take_add_one, hx']; rfl
    have t2 : (l ++ [s]).take (k + 1 + 1) = (l ++ [s]).take k ++ x :: [y] := by rw [List.take_add_one, hy, t1]; simp
    rw [t1, t2, chain_app f _ x [y]]
    simp [chain]
theorem sumE_chain (f : Pt → Pt → Int) (s : Pt) (l : List Pt) : sumE f (s :: l) (s :: l).length = chain f (s :: (l ++ [s])) := by
  rw [sumE_take f (s :: l) s rfl _ (Nat.le_refl _), List.take_of_length_le (by simp)]
  rfl
theorem sumE_swap (f : Pt → Pt → Int) (x y : List Pt) : sumE f (x ++ y) (x ++ y).length = sumE f (y ++ x) (y ++ x).length := by
  cases x with
  | nil => rw [List.append_nil]; rfl
  | cons a x =>
    cases y with
    | nil => rw [List.append_nil]; rfl
    | cons b y =>
      have e1 := sumE_chain f a (x ++ b :: y)
      have e2 := sumE_chain f b (y ++ a :: x)
      have h1 := chain_app f (a :: x) b (y ++ [a])
      have h2 := chain_app f (b :: y) a (x ++ [b])
      have g1 : a :: (x ++ b :: y ++ [a]) = (a :: x) ++ b :: (y ++ [a]) := by simp
      have g2 : b :: (y ++ a :: x ++ [b]) = (b :: y) ++ a :: (x ++ [b]) := by simp
      rw [g1, h1] at e1
      rw [g2, h2] at e2
      rw [show (a :: x) ++ b :: y = a :: (x ++ b :: y) from rfl, show (b :: y) ++ a :: x = b :: (y ++ a :: x) from rfl, e1, e2]
      simp only [List.cons_append]
      omega
theorem sumE_rot (f : Pt → Pt → Int) (l : List Pt) (k : Nat) : sumE f (l.drop k ++ l.take k) (l.drop k ++ l.take k).length = sumE f l l.length := by
  rw [sumE_swap, List.take_append_drop]
theorem chain_rev (f : Pt → Pt → Int) (hf : ∀ a b, f b a = -f a b) : ∀ l, chain f l.reverse = -chain f l
  | [] => rfl
  | [a] => rfl
  | a :: b :: r => by
    have ih := chain_rev f hf (b :: r)
    have e : (a :: b :: r).reverse = r.reverse ++ b :: [a] := by simp
    rw [e, chain_app, show r.reverse ++ [b] = (b :: r).reverse by simp, ih]
    simp only [chain, hf a b]
    omega
theorem sumE_rev (f : Pt → Pt → Int) (hf : ∀ a b, f b a = -f a b) (l : List Pt) : sumE f l.reverse l.reverse.length = -sumE f l l.length := by
  cases l with
  | nil => rfl
  | cons s l =>
    have e1 : (s :: l).reverse = l.reverse ++ [s] := by simp
    rw [e1, sumE_swap]
    have e2 := sumE_chain f s l.reverse
    have e3 := sumE_chain f s l
    rw [show [s] ++ l.reverse = s :: l.reverse from rfl, e2, e3, ← chain_rev f hf]
    congr 1
    simp
theorem chain_map {f f' : Pt → Pt → Int} {g : Pt → Pt} (h : ∀ a b, f (g a) (g b) = f' a b) : ∀ l : List Pt, chain f (l.map g) = chain f' l
  | [] => rfl
  | [a] => rfl
  | a :: b :: r => by
    have ih := chain_map h (b :: r)
    simp only [List.map_cons] at ih
    simp only [List.map_cons, chain, ih, h]
theorem sumE_map {f f' : Pt → Pt → Int} {g : Pt → Pt} (h : ∀ a b, f (g a) (g b) = f' a b) (l : List Pt) : sumE f (l.map g) (l.map g).length = sumE f' l l.length := by
  cases l with
  | nil => rfl
  | cons s l =>
    rw [sumE_chain f' s l, ← chain_map h]
    simp only [List.map_cons, List.map_append, List.map_nil]
    exact sumE_chain f (g s) (l.map g)
theorem chain_slide (f : Pt → Pt → Int) (h : Pt → Int) : ∀ (l : List Pt) (a z : Pt), chain (fun x y => f x y + (h y - h x)) (a :: (l ++ [z])) = chain f (a :: (l ++ [z])) + (h z - h a)
  | [], a, z => by simp [chain]
  | b :: l, a, z => by
    have ih := chain_slide f h l b z
    simp only [List.cons_append, chain] at ih ⊢
    rw [ih]
    omega
theorem sumE_slide (f : Pt → Pt → Int) (h : Pt → Int) (l : List Pt) : sumE (fun x y => f x y + (h y - h x)) l l.length = sumE f l l.length := by
  cases l with
  | nil => rfl
  | cons s l =>
    rw [sumE_chain, sumE_chain, chain_slide]
    omega
theorem crs_anti (a b : Pt) : crs b a = -crs a b := by simp only [crs]; grind
theorem area_rot (l : List Pt) (k : Nat) : area (l.drop k ++ l.take k) = area l := sumE_rot crs l k
theorem turns_rot (p : Pt) (l : List Pt) (k : Nat) : turns p (l.drop k ++ l.take k) = turns p l := sumE_rot (trn p) l k
theorem area_rev (l : List Pt) : area l.reverse = -area l := sumE_rev crs crs_anti l
theorem area_moved (p : Pt) (l : List Pt) : area (l.map (·.add p)) = area l := by
  show sumE crs _ _ = sumE crs l l.length
  rw [← sumE_slide crs (fun a => p.u * a.v - p.v * a.u) l]
  refine sumE_map (fun a b => ?_) l
  simp only [crs, Pt.add]
  grind
theorem area_turned (l : List Pt) : area (l.map Pt.turned) = area l := sumE_map (fun a b => by simp only [crs, Pt.turned]; grind) l
theorem turns_moved (p q : Pt) (hq : q = p.add p) (l : List Pt) : turns q (l.map (·.add p)) = turns p l := by
  subst hq
  refine sumE_map (fun a b => ?_) l
  have e : ∀ a : Pt, (a.add p).sub (p.add p) = a.sub p := fun a => by simp only [Pt.add, Pt.sub]; congr 1 <;> omega
  simp only [trn, e]
theorem far_turned (p : Pt) (l : List Pt) : farL p.turned (l.map Pt.turned) = farL p l := by
  unfold farL
  rw [List.foldl_map]
  congr 1
  funext m q
  have e : sqr (q.turned.sub p.turned) = sqr (q.sub p) := by simp only [sqr, Pt.sub, Pt.turned]; grind
  simp only [farS, e]
theorem turned4 (p : Pt) : p.turned.turned.turned.turned = p := by simp only [Pt.turned, Int.neg_neg]
end Go.Proofs.Ytahmogobaanklaa.Z
