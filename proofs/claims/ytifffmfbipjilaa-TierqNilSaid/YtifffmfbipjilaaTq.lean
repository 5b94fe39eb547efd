/- The queue by tiers in memory: a head, a slab, rows, a heap, handles. -/
import Derived.Test.YtifffmfbipjilaaSlabx
import Derived.Test.YtifffmfbipjilaaDqi
import Derived.Test.YtifffmfbipjilaaHpx
import Derived.Deep.RegionHeld3
namespace Go.Proofs.Ytifffmfbipjilaa.Z
open Go.RowKit Go.Proofs.YtifffmfbipjilaaW Go.Proofs.YtifffmfbipjilaaW.PrintWords
set_option linter.unusedVariables false
set_option linter.unusedSimpArgs false
open H (En)
/-- Where all of it lies. -/
structure TA where
  gq : Nat
  g : Nat
  gc : Nat
  dg : Nat
  br : Nat
  bl : Nat
  hg : Nat
  ba : Nat
  bh : Nat
/-- The handle of a cell. -/
def hof (i : Nat) (c : Cel) : Int := c.turns * 4294967296 + i
/-- What is queued: cells, rows, entries, handles say the same. -/
structure TW (n m : Nat) (s : Slb) (L : List (List Nat)) (S : List En) (hs : List Int) : Prop where
  cl : s.cells.length = m
  ll : L.length = n
  hl : hs.length = m
  rows : ∀ (r : Nat) l (i : Nat), L[r]? = some l → i ∈ l → ∃ c, s.cells[i]? = some c ∧ c.taken = true ∧ c.q.tier = r
  home : ∀ (i : Nat) c, s.cells[i]? = some c → c.taken = true → ∃ (r : Nat) (l : List Nat), L[r]? = some l ∧ i ∈ l ∧ c.q.tier = r
  ents : ∀ e : En, e ∈ S ↔ ∃ (i : Nat) (c : Cel), s.cells[i]? = some c ∧ c.taken = true ∧ e = ⟨c.q.dl, c.q.t, i⟩
  hand : ∀ (i : Nat) c, s.cells[i]? = some c → c.taken = true → hs[i]? = some (hof i c)
  tot : s.len = (L.flatten.length : Int)
structure TQ (w0 w : World) (a : TA) (n m : Nat) (s : Slb) (ch : List Nat) (N : Nat) (L : List (List Nat)) (S : List En) (hs : List Int) : Prop where
  head : Blk w a.gq 82 [.pointer (some ⟨a.g, 0, none⟩), .pointer (some ⟨a.dg, 0, none⟩), .pointer (some ⟨a.hg, 0, none⟩), .slice (some ⟨a.bh, 0, none⟩) m m, .int .i64 n]
  sl : SlabAt w a.g a.gc s
  wf : Wf s ch N
  dq : ∃ d, DqAt w a.dg a.br a.bl d ∧ DR d L ∧ d.links.length = m
  hp : ∃ v, H.HM w0 w a.hg a.ba v S m
  hd : Blk w a.bh 29 (hs.map (Value.int .u64))
  tw : TW n m s L S hs
  lo : w0.heap.size ≤ a.gq ∧ w0.heap.size ≤ a.g ∧ w0.heap.size ≤ a.gc ∧ w0.heap.size ≤ a.dg ∧ w0.heap.size ≤ a.br ∧ w0.heap.size ≤ a.bl ∧ w0.heap.size ≤ a.bh
  n8 : 1 ≤ n ∧ n ≤ 8
  m1 : 1 ≤ m ∧ m ≤ 1024
theorem TQ.below {w0 w W : World} {a : TA} {n m N : Nat} {s : Slb} {ch : List Nat} {L : List (List Nat)} {S : List En} {hs : List Int} (h : TQ w0 w a n m s ch N L S hs) (hb : Below w.heap.size w W) : TQ w0 W a n m s ch N L S hs := by
  obtain ⟨d, h1, h2, h3⟩ := h.dq
  obtain ⟨v, h4⟩ := h.hp
  exact ⟨h.head.below hb, h.sl.kp (Kp.of_below (S := []) hb) (by simp) (by simp), h.wf, ⟨d, h1.below hb, h2, h3⟩, ⟨v, h4.below hb⟩, h.hd.below hb, h.tw, h.lo, h.n8, h.m1⟩
end Go.Proofs.Ytifffmfbipjilaa.Z
namespace Go.Proofs.Ytifffmfbipjilaa.Z
open Go.RowKit Go.Proofs.YtifffmfbipjilaaW Go.Proofs.YtifffmfbipjilaaW.PrintWords
set_option linter.unusedVariables false
set_option linter.unusedSimpArgs false
open H (En)
theorem rows_set {α : Type} {L : List (List α)} {r : Nat} {l l' : List α} (h : L[r]? = some l) : (L.set r l').flatten.length + l.length = L.flatten.length + l'.length := by
  induction L generalizing r with
  | nil => simp at h
  | cons x L ih =>
    cases r with
    | zero =>
      simp only [List.getElem?_cons_zero, Option.some.injEq] at h
      subst h
      simp only [List.set_cons_zero, List.flatten_cons, List.length_append]
      omega
    | succ r =>
      rw [List.getElem?_cons_succ] at h
      have := ih h
      simp only [List.set_cons_succ, List.flatten_cons, List.length_append]
      omega
theorem TW.put {n m N : Nat} {s : Slb} {ch : List Nat} {L : List (List Nat)} {S : List En} {hs : List Int} (h : TW n m s L S hs) {i r : Nat} {c : Cel} {q : Rq} {l : List Nat} (hc : s.cells[i]? = some c) (hct : c.taken = false) (hq : q.tier = r) (hl : L[r]? = some l) :
    TW n m (s.taken i c q ch) (L.set r (l ++ [i])) (H.ins ⟨q.dl, q.t, i⟩ S) (hs.set i (hof i ⟨q, c.turns + 1, true, c.next⟩)) := by
  have hi : i < s.cells.length := (List.getElem?_eq_some_iff.1 hc).1
  have hr : r < L.length := (List.getElem?_eq_some_iff.1 hl).1
  have cs : ∀ j : Nat, (s.taken i c q ch).cells[j]? = if i = j then some ⟨q, c.turns + 1, true, c.next⟩ else s.cells[j]? := fun j => by rw [Slb.taken_cells]; exact set_at hi
  have ls : ∀ j : Nat, (L.set r (l ++ [i]))[j]? = if r = j then some (l ++ [i]) else L[j]? := fun j => set_at hr
  have old : ∀ {j : Nat} {d : Cel}, s.cells[j]? = some d → d.taken = true → i ≠ j := fun hd ht e => by
    subst e
    rw [hc] at hd
    injection hd with hd
    rw [← hd, hct] at ht
    cases ht
  refine ⟨by rw [Slb.taken_cells, List.length_set]; exact h.cl, by rw [List.length_set]; exact h.ll, by rw [List.length_set]; exact h.hl, ?_, ?_, ?_, ?_, ?_⟩
  · intro r' l' j hl' hj
    rw [ls] at hl'
    by_cases he : r = r'
    · rw [if_pos he] at hl'
      injection hl' with hl'
      subst hl'
      rcases List.mem_append.1 hj with hj | hj
      · obtain ⟨d, h1, h2, h3⟩ := h.rows r l j hl hj
        exact ⟨d, by rw [cs, if_neg (old h1 h2)]; exact h1, h2, by rw [h3, he]⟩
      · rw [List.mem_singleton] at hj
        subst hj
        exact ⟨_, by rw [cs, if_pos rfl], rfl, by rw [← he]; exact hq⟩
    · rw [if_neg he] at hl'
      obtain ⟨d, h1, h2, h3⟩ := h.rows r' l' j hl' hj
      exact ⟨d, by rw [cs, if_neg (old h1 h2)]; exact h1, h2, h3⟩
  · intro j d hd ht
    rw [cs] at hd
    by_cases he : i = j
    · rw [if_pos he] at hd
      injection hd with hd
      subst hd
      exact ⟨r, l ++ [i], by rw [ls, if_pos rfl], by simp [he], hq⟩
    · rw [if_neg he] at hd
      obtain ⟨r', l', h1, h2, h3⟩ := h.home j d hd ht
      by_cases hrr : r = r'
      · subst hrr
        rw [hl] at h1
        injection h1 with h1
        subst h1
        exact ⟨r, l ++ [i], by rw [ls, if_pos rfl], List.mem_append_left _ h2, h3⟩
      · exact ⟨r', l', by rw [ls, if_neg hrr]; exact h1, h2, h3⟩
  · intro e
    rw [(H.ins_perm _ S).mem_iff, List.mem_cons, h.ents]
    constructor
    · rintro (rfl | ⟨j, d, h1, h2, h3⟩)
      · exact ⟨i, _, by rw [cs, if_pos rfl], rfl, rfl⟩
      · exact ⟨j, d, by rw [cs, if_neg (old h1 h2)]; exact h1, h2, h3⟩
    · rintro ⟨j, d, h1, h2, h3⟩
      rw [cs] at h1
      by_cases he : i = j
      · rw [if_pos he] at h1
        injection h1 with h1
        subst h1 he
        exact .inl h3
      · rw [if_neg he] at h1
        exact .inr ⟨j, d, h1, h2, h3⟩
  · intro j d hd ht
    rw [cs] at hd
    rw [set_at (by rw [h.hl, ← h.cl]; exact hi)]
    by_cases he : i = j
    · rw [if_pos he] at hd ⊢
      injection hd with hd
      subst hd he
      rfl
    · rw [if_neg he] at hd ⊢
      exact h.hand j d hd ht
  · have := rows_set (l' := l ++ [i]) hl
    rw [Slb.taken_len, h.tot]
    rw [List.length_append, List.length_singleton] at this
    omega
theorem TW.gone {n m : Nat} {s : Slb} {L : List (List Nat)} {S : List En} {hs : List Int} (h : TW n m s L S hs) {i r k : Nat} {c : Cel} {l : List Nat} (hc : s.cells[i]? = some c) (hct : c.taken = true) (hl : L[r]? = some l) (hk : l[k]? = some i) (hnd : l.Nodup)
    (hone : ∀ (r' : Nat) l', L[r']? = some l' → i ∈ l' → r = r') :
    TW n m (s.gone i c) (L.set r (l.eraseIdx k)) (S.filter fun x => x.i ≠ (i : Int)) hs := by
  have hi : i < s.cells.length := (List.getElem?_eq_some_iff.1 hc).1
  have hr : r < L.length := (List.getElem?_eq_some_iff.1 hl).1
  have cs : ∀ j : Nat, (s.gone i c).cells[j]? = if i = j then some ⟨c.q, c.turns, false, s.freed⟩ else s.cells[j]? := fun j => set_at hi
  have ls : ∀ j : Nat, (L.set r (l.eraseIdx k))[j]? = if r = j then some (l.eraseIdx k) else L[j]? := fun j => set_at hr
  have mem : ∀ j, j ∈ l.eraseIdx k ↔ j ∈ l ∧ j ≠ i := fun j => by
    obtain ⟨hkl, hke⟩ := List.getElem?_eq_some_iff.1 hk
    rw [List.mem_eraseIdx_iff_getElem?]
    constructor
    · rintro ⟨p, hp, hpj⟩
      refine ⟨List.mem_of_getElem? hpj, fun e => hp ?_⟩
      obtain ⟨hpl, hpe⟩ := List.getElem?_eq_some_iff.1 hpj
      exact (List.getElem_inj hnd).1 (hpe.trans (e.trans hke.symm))
    · rintro ⟨hj, hne⟩
      obtain ⟨p, hpj⟩ := List.mem_iff_getElem?.1 hj
      refine ⟨p, fun e => hne ?_, hpj⟩
      subst e
      rw [hk] at hpj
      injection hpj with hpj
      exact hpj.symm
  refine ⟨by show (s.cells.set i _).length = m; rw [List.length_set]; exact h.cl, by rw [List.length_set]; exact h.ll, h.hl, ?_, ?_, ?_, ?_, ?_⟩
  · intro r' l' j hl' hj
    rw [ls] at hl'
    by_cases he : r = r'
    · rw [if_pos he] at hl'
      injection hl' with hl'
      subst hl'
      obtain ⟨h1, h2⟩ := (mem j).1 hj
      obtain ⟨d, h3, h4, h5⟩ := h.rows r l j hl h1
      exact ⟨d, by rw [cs, if_neg (Ne.symm h2)]; exact h3, h4, by rw [h5, he]⟩
    · rw [if_neg he] at hl'
      obtain ⟨d, h3, h4, h5⟩ := h.rows r' l' j hl' hj
      have hij : i ≠ j := fun e => he (hone r' l' hl' (e ▸ hj))
      exact ⟨d, by rw [cs, if_neg hij]; exact h3, h4, h5⟩
  · intro j d hd ht
    rw [cs] at hd
    by_cases he : i = j
    · rw [if_pos he] at hd
      injection hd with hd
      rw [← hd] at ht
      cases ht
    · rw [if_neg he] at hd
      obtain ⟨r', l', h1, h2, h3⟩ := h.home j d hd ht
      by_cases hrr : r = r'
      · subst hrr
        rw [hl] at h1
        injection h1 with h1
        subst h1
        exact ⟨r, _, by rw [ls, if_pos rfl], (mem j).2 ⟨h2, Ne.symm he⟩, h3⟩
      · exact ⟨r', l', by rw [ls, if_neg hrr]; exact h1, h2, h3⟩
  · intro e
    rw [List.mem_filter, h.ents]
    constructor
    · rintro ⟨⟨j, d, h1, h2, h3⟩, h4⟩
      have hij : i ≠ j := fun e' => by subst e'; rw [h3] at h4; simp at h4
      exact ⟨j, d, by rw [cs, if_neg hij]; exact h1, h2, h3⟩
    · rintro ⟨j, d, h1, h2, h3⟩
      rw [cs] at h1
      by_cases he : i = j
      · rw [if_pos he] at h1
        injection h1 with h1
        rw [← h1] at h2
        cases h2
      · rw [if_neg he] at h1
        refine ⟨⟨j, d, h1, h2, h3⟩, ?_⟩
        rw [h3]
        simp only [ne_eq, decide_eq_true_eq]
        omega
  · intro j d hd ht
    rw [cs] at hd
    by_cases he : i = j
    · rw [if_pos he] at hd
      injection hd with hd
      rw [← hd] at ht
      cases ht
    · rw [if_neg he] at hd
      exact h.hand j d hd ht
  · have := rows_set (l' := l.eraseIdx k) hl
    have hkl := (List.getElem?_eq_some_iff.1 hk).1
    rw [List.length_eraseIdx_of_lt hkl] at this
    show s.len - 1 = _
    rw [h.tot]
    omega
theorem TW.new (n m : Nat) (hs : List Int) (hh : hs.length = m) : TW n m ⟨List.replicate m Cel.nil, -1, 0, 0⟩ (List.replicate n []) [] hs := by
  have no : ∀ {i : Nat} {c : Cel}, (List.replicate m Cel.nil)[i]? = some c → c.taken = true → False := fun h ht => by
    have := List.mem_of_getElem? h
    rw [List.mem_replicate] at this
    rw [this.2] at ht
    cases ht
  refine ⟨by simp, by simp, hh, fun r l i hl hi => ?_, fun i c hc ht => (no hc ht).elim, fun e => ⟨fun h => (by cases h), fun ⟨i, c, hc, ht, _⟩ => (no hc ht).elim⟩, fun i c hc ht => (no hc ht).elim, ?_⟩
  · have := List.mem_of_getElem? hl
    rw [List.mem_replicate] at this
    rw [this.2] at hi
    cases hi
  · show (0 : Int) = _
    simp
end Go.Proofs.Ytifffmfbipjilaa.Z
namespace Go.Proofs.Ytifffmfbipjilaa.Z
open Go.RowKit Go.Proofs.YtifffmfbipjilaaW Go.Proofs.YtifffmfbipjilaaW.PrintWords
set_option linter.unusedVariables false
set_option linter.unusedSimpArgs false
theorem flat_one {α : Type} (f : α → Value) (l : List α) : flat (fun x => [f x]) l = l.map f := by
  induction l with
  | nil => rfl
  | cons x l ih =>
    rw [List.map_cons, ← ih]
    rfl
set_option maxHeartbeats 8000000 in
set_option maxRecDepth 100000 in
theorem tq_new (n m : Nat) (h1 : 1 ≤ n) (h2 : n ≤ 8) (h3 : 1 ≤ m) (h4 : m ≤ 1024) (w : World) : Calls Try.prog 9 #[.int .i64 n, .int .i64 m] w fun e w' => ∃ (a : TA) (hs : List Int), e = .returned (.tuple #[.pointer (some ⟨a.gq, 0, none⟩), .int .i64 0]) ∧ TQ w w' a n m ⟨List.replicate m Cel.nil, -1, 0, 0⟩ [] 0 (List.replicate n []) [] hs := by
  have hi : (Try.prog.info? 29).map (fun i => (i.zero, i.size, i.bytes)) = some (some (.int .u64 0), 1, 8) := by kernel_rfl
  obtain ⟨i, hi, he⟩ := Option.map_eq_some_iff.1 hi
  simp only [Prod.mk.injEq] at he
  obtain ⟨hz, hsz, hby⟩ := he
  have HI := Aside0.mk (And.intro hi (And.intro hz (And.intro hsz hby)))
  have HN := Aside0.mk (dnew_ok n m h1 h2 h3 h4 w)
  have HS := Aside0.mk (And.intro (And.intro h1 h2) (And.intro h3 h4))
  clear hi hz hsz hby
  go_enter Try.func9, Try.ntmps9
  go_wp2_with (fail)
  refine HN.out.mono ?_
  rintro e w1 ⟨dg, br, bl, rfl, hd, l1, l2, l3, b1⟩
  have HD := Aside0.mk (And.intro hd (And.intro l1 (And.intro l2 (And.intro l3 b1))))
  clear hd l1 l2 l3 b1 HN
  go_wp2_with (fail)
  refine (new_ok (m : Int) (by omega) (by omega) w1).mono ?_
  rintro e w2 ⟨g, gc, rfl, hs, l4, l5, b2⟩
  rw [Int.toNat_natCast] at hs
  have HL := Aside0.mk (And.intro hs (And.intro l4 (And.intro l5 b2)))
  clear hs l4 l5 b2
  go_wp2_with (fail)
  refine (H.m_new m (by omega) (by omega) w2).mono ?_
  rintro e w3 ⟨hg, ba, rfl, hh⟩
  have HH := Aside0.mk hh
  have hmi : (m : Int) ≤ 1024 := by omega
  clear hh
  go_wp2_with (first | (at_make; refine make_event (e := 29) (n := (m : Int)) (N := 35) (i := i) (z := .int .u64 0) rfl rfl 43 _ _ rfl rfl rfl Try.underlying43 HI.out.1 HI.out.2.1 (by omega) (by rw [HI.out.2.2.2]; omega) (by omega) ?_; intro bh hbh w4 hbk hbel; rw [HI.out.2.2.1] at hbk; have HK := Aside0.mk (And.intro hbh (And.intro hbk hbel)); clear hbh hbk hbel) | ((with_reducible refine gate_dst (N := 38) rfl ?_); refine box_event ?hg (N := 38) ?hd (cs := #[.pointer (some ⟨g, 0, none⟩), .pointer (some ⟨dg, 0, none⟩), .pointer (some ⟨hg, 0, none⟩), .slice (some ⟨bh, 0, none⟩) (m : Int).toNat (m : Int).toNat, .int .i64 n]) (t := 82) ?hr ?_; (case hd => rfl); (case hg => rfl); (case hr => first | (go_simp; done) | (go_simp; rfl)); intro gq hgq w5 hbox hb5))
  refine bodyPost_ret (results_tmp2 rfl _ _ _) rfl ?_
  obtain ⟨hd, l1, l2, l3, b1⟩ := HD.out
  obtain ⟨hs, l4, l5, b2⟩ := HL.out
  have hh := HH.out
  obtain ⟨hbh, hbk, hbel⟩ := HK.out
  have hbox' : Blk w5 gq 82 [.pointer (some ⟨g, 0, none⟩), .pointer (some ⟨dg, 0, none⟩), .pointer (some ⟨hg, 0, none⟩), .slice (some ⟨bh, 0, none⟩) m m, .int .i64 n] := by
    have : Blk w5 gq 82 [.pointer (some ⟨g, 0, none⟩), .pointer (some ⟨dg, 0, none⟩), .pointer (some ⟨hg, 0, none⟩), .slice (some ⟨bh, 0, none⟩) (m : Int).toNat (m : Int).toNat, .int .i64 n] := hbox
    rwa [Int.toNat_natCast] at this
  have hfl := made_flat (k := 1) (fun x : Int => [Value.int .u64 x]) (by omega) (Value.cells (.int .u64 0)) 0 rfl rfl m
  rw [Int.toNat_natCast, hfl, flat_one] at hbk
  have b02 : Below w.heap.size w w2 := b1.trans (b2.mono b1.size)
  have b3 := hh.bel
  have b25 : Below w2.heap.size w2 w5 := (b3.trans (hbel.mono b3.size)).trans (hb5.mono (Nat.le_trans b3.size hbel.size))
  have b35 : Below w3.heap.size w3 w5 := hbel.trans (hb5.mono hbel.size)
  have s1 := b1.size
  have s2 := b2.size
  have s3 := b3.size
  have s4 := hbel.size
  have hd2 := hd.below b2
  have hd5 := hd2.below b25
  have hs5 : SlabAt w5 g gc _ := hs.kp (Kp.of_below (S := []) b25) (by simp) (by simp)
  have hh5 := (hh.below b35)
  have hhm : H.HM w w5 hg ba (.slice none 0 0) [] m := ⟨hh5.hs, fun b hb => by have := hh5.own b hb; omega, hh5.srt, b02.trans (b25.mono b02.size)⟩
  refine ⟨⟨gq, g, gc, dg, br, bl, hg, ba, bh⟩, List.replicate m 0, ?_, hbox', hs5, Wf.new m HS.out.2.2, ⟨_, hd5, DR.new n m HS.out.2.2, by simp⟩, ⟨_, hhm⟩, hbk.below hb5, TW.new n m _ (by simp), ⟨by show _ ≤ gq; omega, by show _ ≤ g; omega, by show _ ≤ gc; omega, l1, l2, l3, by show _ ≤ bh; omega⟩, HS.out.1, HS.out.2⟩
  subst hgq
  rfl
end Go.Proofs.Ytifffmfbipjilaa.Z
namespace Go.Proofs.Ytifffmfbipjilaa.Z
open Go.RowKit Go.Proofs.YtifffmfbipjilaaW Go.Proofs.YtifffmfbipjilaaW.PrintWords
set_option linter.unusedVariables false
set_option linter.unusedSimpArgs false
open H (En)
section
variable {w0 : World} {a : TA} {n m N : Nat} {s : Slb} {ch : List Nat} {L : List (List Nat)} {S : List En} {hs : List Int}
set_option maxHeartbeats 4000000 in
theorem tq_len (w : World) (h : TQ w0 w a n m s ch N L S hs) : Calls Try.prog 14 #[.pointer (some ⟨a.gq, 0, none⟩)] w fun e w' => e = .returned (.int .i64 s.len) ∧ w = w' := by
  have c0 := h.head.cell 0 rfl
  have HL := Aside0.mk (len_any a.g a.gc s w h.sl)
  clear h
  go_enter Try.func14, Try.ntmps14
  go_wp2_with (go_at_call 40; refine HL.out.mono ?_; rintro e w' ⟨rfl, rfl⟩)
  go_ret
  exact ⟨rfl, rfl⟩
set_option maxHeartbeats 8000000 in
set_option maxRecDepth 100000 in
theorem tq_get_ok (w : World) (hh : Int) (i : Nat) (c : Cel) (h : TQ w0 w a n m s ch N L S hs) (hN : N < 4294967295) (h0 : 0 ≤ hh) (h1 : hh < 18446744073709551616) (ha : s.at hh = some (i, c)) :
    Calls Try.prog 18 #[.pointer (some ⟨a.gq, 0, none⟩), .int .u64 hh] w fun e w' => e = .returned (.tuple #[c.q.val, .int .i64 0]) ∧ Below w.heap.size w w' := by
  have hb0 : Blk (w.alloc (.cells #[.int .u64 0, .int .i64 0, .int .i64 0, .int .i64 0, .int .i64 0] 33)) w.heap.size 33 [.int .u64 0, .int .i64 0, .int .i64 0, .int .i64 0, .int .i64 0] := Blk.new w _ _
  have hal := below_alloc (Below.refl _ w) (.cells #[.int .u64 0, .int .i64 0, .int .i64 0, .int .i64 0, .int .i64 0] 33)
  have h2 := h.below hal
  have c0 := h2.head.cell 0 rfl
  have HG := Aside0.mk (get_ok hh a.g a.gc i s c _ h2.sl h0 h1 (h2.wf.turns32 hN) ha)
  have HB0 := Aside0.mk (And.intro hb0 hal)
  unfold Rq.val at *
  clear h h2 ha hb0 hal
  go_enter Try.func18, Try.ntmps18
  go_wp2_with (go_at_call 44; refine HG.out.mono ?_; rintro e w6 ⟨rfl, hb⟩; have hz := HB0.out.1.below hb; have z0 := hz.cell 0 rfl; have z1 := hz.cell 1 rfl; have z2 := hz.cell 2 rfl; have z3 := hz.cell 3 rfl; have z4 := hz.cell 4 rfl; have zf : ∀ j, w6.frozen? ⟨w.heap.size, j, none⟩ = false := (fun j => hz.frozen j); have HB6 := Aside0.mk (HB0.out.2.trans (hb.mono HB0.out.2.size)); clear hb hz)
  refine bodyPost_ret (v := .tuple #[.agg #[.int .u64 c.q.t, .int .i64 c.q.tier, .int .i64 c.q.coh, .int .i64 c.q.dl, .int .i64 c.q.ar], .int .i64 0]) (by simp [results, Try.results18, go_sem, *]) rfl ⟨rfl, ?_⟩
  exact ((((HB6.out.setCell (Nat.le_refl _) _).setCell (Nat.le_refl _) _).setCell (Nat.le_refl _) _).setCell (Nat.le_refl _) _).setCell (Nat.le_refl _) _
set_option maxHeartbeats 8000000 in
set_option maxRecDepth 100000 in
theorem tq_get_stale (w : World) (hh : Int) (h : TQ w0 w a n m s ch N L S hs) (hN : N < 4294967295) (h0 : 0 ≤ hh) (h1 : hh < 18446744073709551616) (ha : s.at hh = none) :
    Calls Try.prog 18 #[.pointer (some ⟨a.gq, 0, none⟩), .int .u64 hh] w fun e w' => e = .returned (.tuple #[.agg #[.int .u64 0, .int .i64 0, .int .i64 0, .int .i64 0, .int .i64 0], .int .i64 6]) ∧ Below w.heap.size w w' := by
  have hb0 : Blk (w.alloc (.cells #[.int .u64 0, .int .i64 0, .int .i64 0, .int .i64 0, .int .i64 0] 33)) w.heap.size 33 [.int .u64 0, .int .i64 0, .int .i64 0, .int .i64 0, .int .i64 0] := Blk.new w _ _
  have hal := below_alloc (Below.refl _ w) (.cells #[.int .u64 0, .int .i64 0, .int .i64 0, .int .i64 0, .int .i64 0] 33)
  have h2 := h.below hal
  have c0 := h2.head.cell 0 rfl
  have HG := Aside0.mk (get_stale hh a.g a.gc s _ h2.sl h0 h1 (h2.wf.turns32 hN) ha)
  have HB0 := Aside0.mk (And.intro hb0 hal)
  clear h h2 ha hb0 hal
  go_enter Try.func18, Try.ntmps18
  go_wp2_with (go_at_call 44; refine HG.out.mono ?_; rintro e w6 ⟨rfl, hb⟩; have hz := HB0.out.1.below hb; have z0 := hz.cell 0 rfl; have z1 := hz.cell 1 rfl; have z2 := hz.cell 2 rfl; have z3 := hz.cell 3 rfl; have z4 := hz.cell 4 rfl; have zf : ∀ j, w6.frozen? ⟨w.heap.size, j, none⟩ = false := (fun j => hz.frozen j); have HB6 := Aside0.mk (HB0.out.2.trans (hb.mono HB0.out.2.size)); clear hb hz)
  refine bodyPost_ret (v := .tuple #[.agg #[.int .u64 0, .int .i64 0, .int .i64 0, .int .i64 0, .int .i64 0], .int .i64 6]) (by simp [results, Try.results18, go_sem, *]) rfl ⟨rfl, ?_⟩
  exact ((((HB6.out.setCell (Nat.le_refl _) _).setCell (Nat.le_refl _) _).setCell (Nat.le_refl _) _).setCell (Nat.le_refl _) _).setCell (Nat.le_refl _) _
set_option maxHeartbeats 4000000 in
theorem tq_count (w : World) (r : Nat) (l : List Nat) (h : TQ w0 w a n m s ch N L S hs) (hl : L[r]? = some l) : Calls Try.prog 27 #[.pointer (some ⟨a.gq, 0, none⟩), .int .i64 r] w fun e w' => e = .returned (.int .i64 l.length) ∧ w = w' := by
  have c1 := h.head.cell 1 rfl
  obtain ⟨d, h1, h2, _⟩ := h.dq
  have HL := dlen_any r a.dg a.br a.bl d w h1
  rw [h2.lenOf hl] at HL
  have HL := Aside0.mk HL
  clear h h1 h2 hl
  go_enter Try.func27, Try.ntmps27
  go_wp2_with (go_at_call 55; refine HL.out.mono ?_; rintro e w' ⟨rfl, rfl⟩)
  go_ret
  exact ⟨rfl, rfl⟩
set_option maxHeartbeats 4000000 in
theorem tq_count_out (w : World) (r : Int) (h : TQ w0 w a n m s ch N L S hs) (hr : ¬ (0 ≤ r ∧ r < n)) : Calls Try.prog 27 #[.pointer (some ⟨a.gq, 0, none⟩), .int .i64 r] w fun e w' => e = .returned (.int .i64 0) ∧ w = w' := by
  have c1 := h.head.cell 1 rfl
  obtain ⟨d, h1, h2, _⟩ := h.dq
  have HL := Aside0.mk (dlen_far r a.dg a.br a.bl d w h1 (by rw [h2.rl, h.tw.ll]; exact hr))
  clear h h1 h2 hr
  go_enter Try.func27, Try.ntmps27
  go_wp2_with (go_at_call 55; refine HL.out.mono ?_; rintro e w' ⟨rfl, rfl⟩)
  go_ret
  exact ⟨rfl, rfl⟩
end
end Go.Proofs.Ytifffmfbipjilaa.Z
namespace Go.Proofs.Ytifffmfbipjilaa.Z
open Go.RowKit Go.Proofs.YtifffmfbipjilaaW Go.Proofs.YtifffmfbipjilaaW.PrintWords
set_option linter.unusedVariables false
set_option linter.unusedSimpArgs false
open H (En)
section
variable {w0 : World} {a : TA} {n m N : Nat} {s : Slb} {ch : List Nat} {L : List (List Nat)} {S : List En} {hs : List Int}
set_option maxHeartbeats 4000000 in
theorem tq_handle (w : World) (i : Nat) (x : Int) (h : TQ w0 w a n m s ch N L S hs) (hx : hs[i]? = some x) : Calls Try.prog 35 #[.pointer (some ⟨a.gq, 0, none⟩), .int .i64 i, .bool true] w fun e w' => e = .returned (.tuple #[.int .u64 x, .bool true]) ∧ w = w' := by
  have c3 := h.head.cell 3 rfl
  have ci : w.cell? ⟨a.bh, i, none⟩ = some (.int .u64 x) := h.hd.cell i (by rw [List.getElem?_map, hx]; rfl)
  have hi : i < m := by have := (List.getElem?_eq_some_iff.1 hx).1; have := h.tw.hl; omega
  have i0 : (0 : Int) ≤ (i : Int) := by omega
  have i1 : (i : Int) < (m : Int) := by omega
  clear h hx
  go_enter Try.func35, Try.ntmps35
  go_wp2_with (fail)
  go_ret2
  exact ⟨rfl, rfl⟩
theorem tq_handle_no (w : World) (p : Value) (i : Int) : Calls Try.prog 35 #[p, .int .i64 i, .bool false] w fun e w' => e = .returned (.tuple #[.int .u64 0, .bool false]) ∧ w = w' := by
  go_enter Try.func35, Try.ntmps35
  go_wp2_with (fail)
  go_ret2
  exact ⟨rfl, rfl⟩
set_option maxHeartbeats 4000000 in
theorem tq_head (w : World) (r i : Nat) (l : List Nat) (x : Int) (h : TQ w0 w a n m s ch N L S hs) (hl : L[r]? = some l) (hne : l ≠ []) (hi : nth l 0 = i) (hx : hs[i]? = some x) : Calls Try.prog 12 #[.pointer (some ⟨a.gq, 0, none⟩), .int .i64 r] w fun e w' => e = .returned (.tuple #[.int .u64 x, .bool true]) ∧ w = w' := by
  have c1 := h.head.cell 1 rfl
  obtain ⟨d, h1, h2, _⟩ := h.dq
  have HE := front_any r a.dg a.br a.bl d w h1
  rw [h2.endOf hl false hne] at HE
  simp only [if_true, Bool.false_eq_true, if_false] at HE
  rw [hi] at HE
  have HE := Aside0.mk HE
  have HH := Aside0.mk (tq_handle w i x h hx)
  clear h h1 h2 hl hne hi hx
  go_enter Try.func12, Try.ntmps12
  go_wp2_with (fail)
  refine HE.out.mono ?_
  rintro e w1 ⟨rfl, rfl⟩
  go_wp2_with (fail)
  refine HH.out.mono ?_
  rintro e w1 ⟨rfl, rfl⟩
  go_wp2_with (fail)
  go_ret2
  exact ⟨rfl, rfl⟩
set_option maxHeartbeats 4000000 in
theorem tq_head_no (w : World) (r : Nat) (h : TQ w0 w a n m s ch N L S hs) (hl : L[r]? = some []) : Calls Try.prog 12 #[.pointer (some ⟨a.gq, 0, none⟩), .int .i64 r] w fun e w' => e = .returned (.tuple #[.int .u64 0, .bool false]) ∧ w = w' := by
  have c1 := h.head.cell 1 rfl
  obtain ⟨d, h1, h2, _⟩ := h.dq
  have HE := front_any r a.dg a.br a.bl d w h1
  rw [h2.endOf_nil hl false] at HE
  have HE := Aside0.mk HE
  clear h h1 h2 hl
  go_enter Try.func12, Try.ntmps12
  go_wp2_with (fail)
  refine HE.out.mono ?_
  rintro e w1 ⟨rfl, rfl⟩
  go_wp2_with (fail)
  refine (tq_handle_no _ _ _).mono ?_
  rintro e w1 ⟨rfl, rfl⟩
  go_wp2_with (fail)
  go_ret2
  exact ⟨rfl, rfl⟩
set_option maxHeartbeats 4000000 in
theorem tq_tail (w : World) (r i : Nat) (l : List Nat) (x : Int) (h : TQ w0 w a n m s ch N L S hs) (hl : L[r]? = some l) (hne : l ≠ []) (hi : nth l (l.length - 1) = i) (hx : hs[i]? = some x) : Calls Try.prog 23 #[.pointer (some ⟨a.gq, 0, none⟩), .int .i64 r] w fun e w' => e = .returned (.tuple #[.int .u64 x, .bool true]) ∧ w = w' := by
  have c1 := h.head.cell 1 rfl
  obtain ⟨d, h1, h2, _⟩ := h.dq
  have HE := back_any r a.dg a.br a.bl d w h1
  rw [h2.endOf hl true hne] at HE
  simp only [if_true, Bool.false_eq_true, if_false] at HE
  rw [hi] at HE
  have HE := Aside0.mk HE
  have HH := Aside0.mk (tq_handle w i x h hx)
  clear h h1 h2 hl hne hi hx
  go_enter Try.func23, Try.ntmps23
  go_wp2_with (fail)
  refine HE.out.mono ?_
  rintro e w1 ⟨rfl, rfl⟩
  go_wp2_with (fail)
  refine HH.out.mono ?_
  rintro e w1 ⟨rfl, rfl⟩
  go_wp2_with (fail)
  go_ret2
  exact ⟨rfl, rfl⟩
set_option maxHeartbeats 4000000 in
theorem tq_tail_no (w : World) (r : Nat) (h : TQ w0 w a n m s ch N L S hs) (hl : L[r]? = some []) : Calls Try.prog 23 #[.pointer (some ⟨a.gq, 0, none⟩), .int .i64 r] w fun e w' => e = .returned (.tuple #[.int .u64 0, .bool false]) ∧ w = w' := by
  have c1 := h.head.cell 1 rfl
  obtain ⟨d, h1, h2, _⟩ := h.dq
  have HE := back_any r a.dg a.br a.bl d w h1
  rw [h2.endOf_nil hl true] at HE
  have HE := Aside0.mk HE
  clear h h1 h2 hl
  go_enter Try.func23, Try.ntmps23
  go_wp2_with (fail)
  refine HE.out.mono ?_
  rintro e w1 ⟨rfl, rfl⟩
  go_wp2_with (fail)
  refine (tq_handle_no _ _ _).mono ?_
  rintro e w1 ⟨rfl, rfl⟩
  go_wp2_with (fail)
  go_ret2
  exact ⟨rfl, rfl⟩
end
end Go.Proofs.Ytifffmfbipjilaa.Z
namespace Go.Proofs.Ytifffmfbipjilaa.Z
open Go.RowKit Go.Proofs.YtifffmfbipjilaaW Go.Proofs.YtifffmfbipjilaaW.PrintWords
set_option linter.unusedVariables false
set_option linter.unusedSimpArgs false
open H (En)
section
variable {w0 : World} {a : TA} {n m N : Nat} {s : Slb} {ch : List Nat} {L : List (List Nat)} {S : List En} {hs : List Int}
theorem flat_nil {L : List (List Nat)} : L.flatten = [] ↔ ∀ (r : Nat) l, L[r]? = some l → l = [] := by
  rw [List.flatten_eq_nil_iff]
  exact ⟨fun h r l hl => h l (List.mem_of_getElem? hl), fun h l hl => by obtain ⟨r, hr⟩ := List.mem_iff_getElem?.1 hl; exact h r l hr⟩
theorem first_ex {L : List (List Nat)} (h : L.flatten ≠ []) : ∃ (r : Nat) (l : List Nat), L[r]? = some l ∧ l ≠ [] ∧ ∀ (r' : Nat), r' < r → L[r']? = some [] := by
  induction L with
  | nil => exact absurd rfl h
  | cons x L ih =>
    by_cases hx : x = []
    · subst hx
      obtain ⟨r, l, h1, h2, h3⟩ := ih (fun e => h (by rw [List.flatten_cons, e]; rfl))
      refine ⟨r + 1, l, by rw [List.getElem?_cons_succ]; exact h1, h2, fun r' hr => ?_⟩
      cases r' with
      | zero => rfl
      | succ r' => rw [List.getElem?_cons_succ]; exact h3 r' (by omega)
    · exact ⟨0, x, rfl, hx, fun r' hr => by omega⟩
theorem last_ex {L : List (List Nat)} (h : L.flatten ≠ []) : ∃ (r : Nat) (l : List Nat), L[r]? = some l ∧ l ≠ [] ∧ ∀ (r' : Nat), r < r' → r' < L.length → L[r']? = some [] := by
  induction L with
  | nil => exact absurd rfl h
  | cons x L ih =>
    by_cases hL : L.flatten = []
    · have hx : x ≠ [] := fun e => h (by rw [List.flatten_cons, e, hL]; rfl)
      refine ⟨0, x, rfl, hx, fun r' hr hl => ?_⟩
      cases r' with
      | zero => omega
      | succ r' =>
        have hl' : r' < L.length := by rw [List.length_cons] at hl; omega
        have := flat_nil.1 hL r' _ (List.getElem?_eq_getElem hl')
        rw [List.getElem?_cons_succ, List.getElem?_eq_getElem hl', this]
    · obtain ⟨r, l, h1, h2, h3⟩ := ih hL
      refine ⟨r + 1, l, by rw [List.getElem?_cons_succ]; exact h1, h2, fun r' hr hl => ?_⟩
      cases r' with
      | zero => omega
      | succ r' => rw [List.getElem?_cons_succ]; exact h3 r' (by omega) (by rw [List.length_cons] at hl; omega)
theorem TQ.len0 {w : World} (h : TQ w0 w a n m s ch N L S hs) (he : L.flatten = []) : s.len = 0 := by rw [h.tw.tot, he]; rfl
theorem TQ.len1 {w : World} (h : TQ w0 w a n m s ch N L S hs) {r : Nat} {l : List Nat} (hl : L[r]? = some l) (hne : l ≠ []) : s.len ≠ 0 := by
  intro e
  have h1 := h.tw.tot
  rw [e] at h1
  have h2 : L.flatten = [] := List.length_eq_zero_iff.1 (by omega)
  exact hne (flat_nil.1 h2 r l hl)
set_option maxHeartbeats 4000000 in
theorem tq_first_no (w : World) (h : TQ w0 w a n m s ch N L S hs) (he : L.flatten = []) : Calls Try.prog 11 #[.pointer (some ⟨a.gq, 0, none⟩)] w fun e w' => e = .returned (.tuple #[.int .i64 0, .bool false]) ∧ w = w' := by
  have HL := tq_len w h
  rw [h.len0 he] at HL
  have HL := Aside0.mk HL
  clear h he
  go_enter Try.func11, Try.ntmps11
  go_wp2_with (go_at_call 14; refine HL.out.mono ?_; rintro e w' ⟨rfl, rfl⟩)
  go_ret2
  exact ⟨rfl, rfl⟩
set_option maxHeartbeats 4000000 in
theorem tq_last_no (w : World) (h : TQ w0 w a n m s ch N L S hs) (he : L.flatten = []) : Calls Try.prog 24 #[.pointer (some ⟨a.gq, 0, none⟩)] w fun e w' => e = .returned (.tuple #[.int .i64 0, .bool false]) ∧ w = w' := by
  have HL := tq_len w h
  rw [h.len0 he] at HL
  have HL := Aside0.mk HL
  clear h he
  go_enter Try.func24, Try.ntmps24
  go_wp2_with (go_at_call 14; refine HL.out.mono ?_; rintro e w' ⟨rfl, rfl⟩)
  go_ret2
  exact ⟨rfl, rfl⟩
set_option maxHeartbeats 4000000 in
theorem tq_first_ok (w : World) (r : Nat) (l : List Nat) (h : TQ w0 w a n m s ch N L S hs) (hl : L[r]? = some l) (hne : l ≠ []) (hb : ∀ (r' : Nat), r' < r → L[r']? = some []) : Calls Try.prog 11 #[.pointer (some ⟨a.gq, 0, none⟩)] w fun e w' => e = .returned (.tuple #[.int .i64 r, .bool true]) ∧ w = w' := by
  have HL := tq_len w h
  have hx := h.len1 hl hne
  generalize s.len = x at HL hx
  have HL := Aside0.mk HL
  have t1 : (x == 0) = false := by rw [beq_eq_false_iff_ne]; exact hx
  have hr8 : r < 8 := by have := (List.getElem?_eq_some_iff.1 hl).1; have := h.tw.ll; have := h.n8; omega
  have HC := Aside0.mk (tq_count w r l h hl)
  have HZ := Aside0.mk (fun (k : Nat) (hk : k < r) => tq_count w k [] h (hb k hk))
  have hll : (l.length : Int) ≠ 0 := by cases l; exact absurd rfl hne; simp; omega
  have t2 : ((l.length : Int) == 0) = false := by rw [beq_eq_false_iff_ne]; exact hll
  have HH := Aside0.mk hll
  clear h hl hne hb hx hll
  go_enter Try.func11, Try.ntmps11
  go_wp2_with (go_at_call 14; refine HL.out.mono ?_; rintro e w' ⟨rfl, rfl⟩)
  go_loopw [4] (fun i wr => ∃ k : Nat, k ≤ r ∧ i = .int .i64 k ∧ wr = w) (fun i _ => r - (intOf i).toNat)
  case atStart => exact ⟨0, Nat.zero_le _, rfl, rfl⟩
  case round =>
    obtain ⟨k, hk, rfl, rfl⟩ := hrel
    by_cases hkr : k < r
    · go_wp2_with (go_at_call 27; refine (HZ.out k hkr).mono ?_; rintro e w' ⟨rfl, rfl⟩)
      go_roundw
      case rel => exact ⟨k + 1, hkr, by go_num, (by first | rfl | trivial)⟩
      case measure => simp [intOf]; omega
    · obtain rfl : k = r := by omega
      go_wp2_with (go_at_call 27; refine HC.out.mono ?_; rintro e w' ⟨rfl, rfl⟩)
      go_ret2
      exact ⟨rfl, rfl⟩
set_option maxHeartbeats 4000000 in
theorem tq_last_ok (w : World) (r : Nat) (l : List Nat) (h : TQ w0 w a n m s ch N L S hs) (hl : L[r]? = some l) (hne : l ≠ []) (hb : ∀ (r' : Nat), r < r' → r' < L.length → L[r']? = some []) : Calls Try.prog 24 #[.pointer (some ⟨a.gq, 0, none⟩)] w fun e w' => e = .returned (.tuple #[.int .i64 r, .bool true]) ∧ w = w' := by
  have HL := tq_len w h
  have hx := h.len1 hl hne
  generalize s.len = x at HL hx
  have HL := Aside0.mk HL
  have t1 : (x == 0) = false := by rw [beq_eq_false_iff_ne]; exact hx
  have hn8 := h.n8
  have hrn : r < n := by have := (List.getElem?_eq_some_iff.1 hl).1; have := h.tw.ll; omega
  have HC := Aside0.mk (tq_count w r l h hl)
  have hLn := h.tw.ll
  have HZ := Aside0.mk (fun (k : Nat) (hk : r < k) (hkn : k < n) => tq_count w k [] h (hb k hk (by omega)))
  have hll : (l.length : Int) ≠ 0 := by cases l; exact absurd rfl hne; simp; omega
  have t2 : ((l.length : Int) == 0) = false := by rw [beq_eq_false_iff_ne]; exact hll
  have HH := Aside0.mk hll
  have c4 := h.head.cell 4 rfl
  clear h hl hne hb hx hll hLn
  go_enter Try.func24, Try.ntmps24
  go_wp2_with (go_at_call 14; refine HL.out.mono ?_; rintro e w' ⟨rfl, rfl⟩)
  go_loopw [4] (fun i wr => ∃ k : Nat, r ≤ k ∧ k < n ∧ i = .int .i64 k ∧ wr = w) (fun i _ => (intOf i).toNat)
  case atStart => exact ⟨n - 1, by omega, by omega, by go_num, (by first | rfl | trivial)⟩
  case round =>
    obtain ⟨k, hk, hkn, rfl, rfl⟩ := hrel
    by_cases hkr : r < k
    · go_wp2_with (go_at_call 27; refine (HZ.out k hkr hkn).mono ?_; rintro e w' ⟨rfl, rfl⟩)
      go_roundw
      case rel => exact ⟨k - 1, by omega, by omega, by go_num, (by first | rfl | trivial)⟩
      case measure => simp [intOf]; omega
    · obtain rfl : k = r := by omega
      go_wp2_with (go_at_call 27; refine HC.out.mono ?_; rintro e w' ⟨rfl, rfl⟩)
      go_ret2
      exact ⟨rfl, rfl⟩
end
end Go.Proofs.Ytifffmfbipjilaa.Z
namespace Go.Proofs.Ytifffmfbipjilaa.Z
open Go.RowKit Go.Proofs.YtifffmfbipjilaaW Go.Proofs.YtifffmfbipjilaaW.PrintWords
set_option linter.unusedVariables false
set_option linter.unusedSimpArgs false
open H (En)
section
variable {w0 : World} {a : TA} {n m N : Nat} {s : Slb} {ch : List Nat} {L : List (List Nat)} {S : List En} {hs : List Int}
set_option maxHeartbeats 8000000 in
set_option maxRecDepth 100000 in
theorem tq_put_arg (w : World) (q : Rq) (h : TQ w0 w a n m s ch N L S hs) (hq : ¬ (0 ≤ q.tier ∧ q.tier < n)) :
    Calls Try.prog 10 #[.pointer (some ⟨a.gq, 0, none⟩), q.val] w fun e w' => e = .returned (.tuple #[.int .u64 0, .int .i64 1]) ∧ Below w.heap.size w w' := by
  have hal := below_alloc (Below.refl _ w) (.cells #[.int .u64 q.t, .int .i64 q.tier, .int .i64 q.coh, .int .i64 q.dl, .int .i64 q.ar] 33)
  have hbx : Blk (w.alloc (.cells #[.int .u64 q.t, .int .i64 q.tier, .int .i64 q.coh, .int .i64 q.dl, .int .i64 q.ar] 33)) w.heap.size 33 q.enc := Blk.new w _ q.enc
  have h2 := h.below hal
  have c4 := h2.head.cell 4 rfl
  have b1 := hbx.cell 1 rfl
  have HB := Aside0.mk hal
  unfold Rq.val
  clear h h2 hal hbx
  by_cases h1 : q.tier < 0
  · have t1 : decide (q.tier < 0) = true := decide_eq_true h1
    clear hq h1
    go_enter Try.func10, Try.ntmps10
    go_upto_region 3 with (fail)
    obtain ⟨gz, hgz⟩ : ∃ z, z = w.heap.size := ⟨_, rfl⟩
    rw [← hgz] at b1
    rw [← hgz]
    clear hgz
    generalize (w.alloc (.cells #[.int .u64 q.t, .int .i64 q.tier, .int .i64 q.coh, .int .i64 q.dl, .int .i64 q.ar] 33)) = W at *
    go_quiet (fail)
    go_wp2_with (fail)
    go_ret2
    exact ⟨rfl, pw_below_drewN HB.out _⟩
  · have t1 : decide (q.tier < 0) = false := decide_eq_false h1
    have t2 : decide ((n : Int) ≤ q.tier) = true := decide_eq_true (by omega)
    clear hq h1
    go_enter Try.func10, Try.ntmps10
    go_upto_region 3 with (fail)
    obtain ⟨gz, hgz⟩ : ∃ z, z = w.heap.size := ⟨_, rfl⟩
    rw [← hgz] at b1
    rw [← hgz]
    clear hgz
    generalize (w.alloc (.cells #[.int .u64 q.t, .int .i64 q.tier, .int .i64 q.coh, .int .i64 q.dl, .int .i64 q.ar] 33)) = W at *
    go_quiet (fail)
    go_wp2_with (fail)
    go_ret2
    exact ⟨rfl, pw_below_drewN HB.out _⟩
set_option maxHeartbeats 8000000 in
set_option maxRecDepth 100000 in
theorem tq_put_full (w : World) (q : Rq) (h : TQ w0 w a n m s ch N L S hs) (hq0 : 0 ≤ q.tier) (hq1 : q.tier < n) (hn : s.next ch = none) :
    Calls Try.prog 10 #[.pointer (some ⟨a.gq, 0, none⟩), q.val] w fun e w' => e = .returned (.tuple #[.int .u64 0, .int .i64 4]) ∧ Below w.heap.size w w' := by
  have hal := below_alloc (Below.refl _ w) (.cells #[.int .u64 q.t, .int .i64 q.tier, .int .i64 q.coh, .int .i64 q.dl, .int .i64 q.ar] 33)
  have hbx : Blk (w.alloc (.cells #[.int .u64 q.t, .int .i64 q.tier, .int .i64 q.coh, .int .i64 q.dl, .int .i64 q.ar] 33)) w.heap.size 33 q.enc := Blk.new w _ q.enc
  have h2 := h.below hal
  have t1 : decide (q.tier < 0) = false := decide_eq_false (by omega)
  have t2 : decide ((n : Int) ≤ q.tier) = false := decide_eq_false (by omega)
  obtain ⟨_, hfd, hfs⟩ := rs_full h2.wf hn
  obtain ⟨gz, hgz⟩ : ∃ z, z = w.heap.size := ⟨_, rfl⟩
  rw [← hgz] at hbx
  have HGZ := Aside0.mk hgz
  have c4 := h2.head.cell 4 rfl
  have b1 := hbx.cell 1 rfl
  have HB := Aside0.mk hal
  unfold Rq.val
  clear h hal
  go_enter Try.func10, Try.ntmps10
  go_upto_region 3 with (fail)
  rw [← hgz]
  clear hgz
  generalize (w.alloc (.cells #[.int .u64 q.t, .int .i64 q.tier, .int .i64 q.coh, .int .i64 q.dl, .int .i64 q.ar] 33)) = W at *
  have H2 := Aside0.mk (And.intro h2 (And.intro hbx (And.intro hfd hfs)))
  clear h2 hbx hfd hfs
  go_quiet (fail)
  have hb3 := pw_below_drewN HB.out nq
  have h3 := H2.out.1.below (pw_below_drewN (Below.refl _ W) nq)
  have hbx3 := H2.out.2.1.drewN_ (n := nq)
  clear c4 b1
  generalize W.drewN nq = V at *
  have c0 := h3.head.cell 0 rfl
  have b0 := hbx3.cell 0 rfl
  have b1 := hbx3.cell 1 rfl
  have b2 := hbx3.cell 2 rfl
  have b3 := hbx3.cell 3 rfl
  have b4 := hbx3.cell 4 rfl
  have H3 := Aside0.mk (And.intro h3 hb3)
  have HX3 := Aside0.mk hbx3
  clear h3 hb3 hbx3
  go_upto_region 5 with (fail)
  go_region_held3 (fun w' => w'.cell? ⟨a.gq, 0, none⟩ = some (.pointer (some ⟨a.g, 0, none⟩)) ∧ w'.cell? ⟨gz, 0, none⟩ = some (.int .u64 q.t) ∧ w'.cell? ⟨gz, 1, none⟩ = some (.int .i64 q.tier) ∧ w'.cell? ⟨gz, 2, none⟩ = some (.int .i64 q.coh) ∧ w'.cell? ⟨gz, 3, none⟩ = some (.int .i64 q.dl) ∧ w'.cell? ⟨gz, 4, none⟩ = some (.int .i64 q.ar)) (go_keep) (first
    | (go_at_call 31; refine (take_full q a.g a.gc s _ (H3.out.1.below (below_drew (Below.refl _ _))).sl H3.out.1.wf.room H2.out.2.2.1 H2.out.2.2.2).mono ?_; rintro e w6 ⟨rfl, hb6⟩; have hx6 := HX3.out.drew_.below hb6; have d0 := hx6.cell 0 rfl; have d1 := hx6.cell 1 rfl; have d2 := hx6.cell 2 rfl; have d3 := hx6.cell 3 rfl; have d4 := hx6.cell 4 rfl; have d5 := ((H3.out.1.below (below_drew (Below.refl _ _))).below hb6).head.cell 0 rfl; have HB6 := Aside0.mk ((below_drew H3.out.2).trans (hb6.mono H3.out.2.size)); clear hb6 hx6))
  clear d0 d1 d2 d3 d4 d5 c0 b0 b1 b2 b3 b4
  go_wp2_with (fail)
  go_ret2
  exact ⟨rfl, HB6.out⟩
end
end Go.Proofs.Ytifffmfbipjilaa.Z
namespace Go.Proofs.Ytifffmfbipjilaa.Z
open Go.RowKit Go.Proofs.YtifffmfbipjilaaW Go.Proofs.YtifffmfbipjilaaW.PrintWords
set_option linter.unusedVariables false
set_option linter.unusedSimpArgs false
open H (En)
/-- As TQ, but its parts may say different things. -/
structure TL (w0 w : World) (a : TA) (n m : Nat) (s : Slb) (ch : List Nat) (N : Nat) (L : List (List Nat)) (S : List En) (hs : List Int) : Prop where
  head : Blk w a.gq 82 [.pointer (some ⟨a.g, 0, none⟩), .pointer (some ⟨a.dg, 0, none⟩), .pointer (some ⟨a.hg, 0, none⟩), .slice (some ⟨a.bh, 0, none⟩) m m, .int .i64 n]
  sl : SlabAt w a.g a.gc s
  wf : Wf s ch N
  dq : ∃ d, DqAt w a.dg a.br a.bl d ∧ DR d L ∧ d.links.length = m
  hp : ∃ v, H.HM w0 w a.hg a.ba v S m
  hd : Blk w a.bh 29 (hs.map (Value.int .u64))
  lo : w0.heap.size ≤ a.gq ∧ w0.heap.size ≤ a.g ∧ w0.heap.size ≤ a.gc ∧ w0.heap.size ≤ a.dg ∧ w0.heap.size ≤ a.br ∧ w0.heap.size ≤ a.bl ∧ w0.heap.size ≤ a.bh
  n8 : 1 ≤ n ∧ n ≤ 8
  m1 : 1 ≤ m ∧ m ≤ 1024
section
variable {w0 w W : World} {a : TA} {n m N : Nat} {s : Slb} {ch : List Nat} {L : List (List Nat)} {S : List En} {hs : List Int}
theorem TQ.loose (h : TQ w0 w a n m s ch N L S hs) : TL w0 w a n m s ch N L S hs := ⟨h.head, h.sl, h.wf, h.dq, h.hp, h.hd, h.lo, h.n8, h.m1⟩
theorem TL.tight (h : TL w0 w a n m s ch N L S hs) (t : TW n m s L S hs) : TQ w0 w a n m s ch N L S hs := ⟨h.head, h.sl, h.wf, h.dq, h.hp, h.hd, t, h.lo, h.n8, h.m1⟩
theorem TL.below (h : TL w0 w a n m s ch N L S hs) (hb : Below w.heap.size w W) : TL w0 W a n m s ch N L S hs := by
  obtain ⟨d, h1, h2, h3⟩ := h.dq
  obtain ⟨v, h4⟩ := h.hp
  exact ⟨h.head.below hb, h.sl.kp (Kp.of_below (S := []) hb) (by simp) (by simp), h.wf, ⟨d, h1.below hb, h2, h3⟩, ⟨v, h4.below hb⟩, h.hd.below hb, h.lo, h.n8, h.m1⟩
theorem hs_away {g ba room b T : Nat} {v : Value} {l : List Value} (h : H.HS w g ba v S room) (hb : Blk w b T l) (h1 : T ≠ 119) (h2 : T ≠ 3) (h3 : T ≠ 128) : b ∉ H.hown g ba v := by
  obtain ⟨l', a', hp, _⟩ := h.ex
  have key : ∀ {t : Nat} {l2 : List Value}, Blk w b t l2 → T = t := fun h2 => by
    have := hb.symm.trans h2
    injection this with this
    injection this
  intro hm
  rcases H.mem_hown.1 hm with rfl | rfl | hm
  · exact h1 (key hp.head)
  · exact h2 (key hp.ats)
  · obtain ⟨cells, hc⟩ := Kd.R_typed hp.row b hm
    exact h3 (key (l2 := cells.toList) (by simpa [Blk] using hc))
/-- Two blocks of other types are two. -/
theorem blk_diff {b b' T T' : Nat} {l l' : List Value} (h : Blk w b T l) (h' : Blk w b' T' l') (hne : T ≠ T') : b ≠ b' := blk_ne h h' hne
theorem TL.slab {s' : Slb} {ch' : List Nat} {N' : Nat} (h : TL w0 w a n m s ch N L S hs) (k : Kp [a.g, a.gc] w W) (hs' : SlabAt W a.g a.gc s') (hw : Wf s' ch' N') : TL w0 W a n m s' ch' N' L S hs := by
  obtain ⟨d, h1, h2, h3⟩ := h.dq
  obtain ⟨v, h4⟩ := h.hp
  have z1 := h.sl.head
  have z2 := h.sl.body
  have nm : ∀ {b T : Nat} {l : List Value}, Blk w b T l → T ≠ 116 → T ≠ 122 → b ∉ [a.g, a.gc] := fun hb e1 e2 hm => by
    simp only [List.mem_cons, List.not_mem_nil, or_false] at hm
    rcases hm with rfl | rfl
    · exact blk_ne hb z1 e1 rfl
    · exact blk_ne hb z2 e2 rfl
  refine ⟨k.blk h.head (nm h.head (by decide) (by decide)), hs', hw, ⟨d, h1.kp k (nm h1.head (by decide) (by decide)) (nm h1.rows (by decide) (by decide)) (nm h1.links (by decide) (by decide)), h2, h3⟩, ⟨v, h4.kp k (fun b hb => ?_) (fun b hb => ?_)⟩, k.blk h.hd (nm h.hd (by decide) (by decide)), h.lo, h.n8, h.m1⟩
  · simp only [List.mem_cons, List.not_mem_nil, or_false] at hb
    rcases hb with rfl | rfl
    · exact hs_away h4.hs z1 (by decide) (by decide) (by decide)
    · exact hs_away h4.hs z2 (by decide) (by decide) (by decide)
  · simp only [List.mem_cons, List.not_mem_nil, or_false] at hb
    rcases hb with rfl | rfl
    · exact h.lo.2.1
    · exact h.lo.2.2.1
theorem TL.rows {L' : List (List Nat)} {d' : Dq} (h : TL w0 w a n m s ch N L S hs) (k : Kp [a.br, a.bl] w W) (hd' : DqAt W a.dg a.br a.bl d') (hD : DR d' L') (hm' : d'.links.length = m) : TL w0 W a n m s ch N L' S hs := by
  obtain ⟨d, h1, h2, h3⟩ := h.dq
  obtain ⟨v, h4⟩ := h.hp
  have z1 := h1.rows
  have z2 := h1.links
  have nm : ∀ {b T : Nat} {l : List Value}, Blk w b T l → T ≠ 111 → T ≠ 113 → b ∉ [a.br, a.bl] := fun hb e1 e2 hm => by
    simp only [List.mem_cons, List.not_mem_nil, or_false] at hm
    rcases hm with rfl | rfl
    · exact blk_ne hb z1 e1 rfl
    · exact blk_ne hb z2 e2 rfl
  refine ⟨k.blk h.head (nm h.head (by decide) (by decide)), h.sl.kp k (nm h.sl.head (by decide) (by decide)) (nm h.sl.body (by decide) (by decide)), h.wf, ⟨d', hd', hD, hm'⟩, ⟨v, h4.kp k (fun b hb => ?_) (fun b hb => ?_)⟩, k.blk h.hd (nm h.hd (by decide) (by decide)), h.lo, h.n8, h.m1⟩
  · simp only [List.mem_cons, List.not_mem_nil, or_false] at hb
    rcases hb with rfl | rfl
    · exact hs_away h4.hs z1 (by decide) (by decide) (by decide)
    · exact hs_away h4.hs z2 (by decide) (by decide) (by decide)
  · simp only [List.mem_cons, List.not_mem_nil, or_false] at hb
    rcases hb with rfl | rfl
    · exact h.lo.2.2.2.2.1
    · exact h.lo.2.2.2.2.2.1
theorem TL.heap {S' : List En} {v v' : Value} (h : TL w0 w a n m s ch N L S hs) (hv : H.HM w0 w a.hg a.ba v S m) (k : Kp (H.hown a.hg a.ba v) w W) (hh : H.HM w0 W a.hg a.ba v' S' m) : TL w0 W a n m s ch N L S' hs := by
  obtain ⟨d, h1, h2, h3⟩ := h.dq
  have nm : ∀ {b T : Nat} {l : List Value}, Blk w b T l → T ≠ 119 → T ≠ 3 → T ≠ 128 → b ∉ H.hown a.hg a.ba v := fun hb e1 e2 e3 => hs_away hv.hs hb e1 e2 e3
  exact ⟨k.blk h.head (nm h.head (by decide) (by decide) (by decide)), h.sl.kp k (nm h.sl.head (by decide) (by decide) (by decide)) (nm h.sl.body (by decide) (by decide) (by decide)), h.wf, ⟨d, h1.kp k (nm h1.head (by decide) (by decide) (by decide)) (nm h1.rows (by decide) (by decide) (by decide)) (nm h1.links (by decide) (by decide) (by decide)), h2, h3⟩, ⟨v', hh⟩, k.blk h.hd (nm h.hd (by decide) (by decide) (by decide)), h.lo, h.n8, h.m1⟩
theorem TL.hand (h : TL w0 w a n m s ch N L S hs) (i : Nat) (x : Int) : TL w0 (w.setCell ⟨a.bh, i, none⟩ (.int .u64 x)) a n m s ch N L S (hs.set i x) := by
  obtain ⟨d, h1, h2, h3⟩ := h.dq
  obtain ⟨v, h4⟩ := h.hp
  have k := (Kp.refl [a.bh] w).set (p := ⟨a.bh, i, none⟩) (.inl (by simp)) (.int .u64 x)
  have nm : ∀ {b T : Nat} {l : List Value}, Blk w b T l → T ≠ 29 → b ∉ [a.bh] := fun hb e1 hm => by
    rw [List.mem_singleton] at hm
    exact blk_ne hb h.hd e1 hm
  refine ⟨k.blk h.head (nm h.head (by decide)), h.sl.kp k (nm h.sl.head (by decide)) (nm h.sl.body (by decide)), h.wf, ⟨d, h1.kp k (nm h1.head (by decide)) (nm h1.rows (by decide)) (nm h1.links (by decide)), h2, h3⟩, ⟨v, h4.kp k (fun b hb => ?_) (fun b hb => ?_)⟩, h.hd.put i _ (by rw [List.map_set]), h.lo, h.n8, h.m1⟩
  · rw [List.mem_singleton] at hb
    subst hb
    exact hs_away h4.hs h.hd (by decide) (by decide) (by decide)
  · rw [List.mem_singleton] at hb
    subst hb
    exact h.lo.2.2.2.2.2.2
end
end Go.Proofs.Ytifffmfbipjilaa.Z
namespace Go.Proofs.Ytifffmfbipjilaa.Z
open Go.RowKit Go.Proofs.YtifffmfbipjilaaW Go.Proofs.YtifffmfbipjilaaW.PrintWords
set_option linter.unusedVariables false
set_option linter.unusedSimpArgs false
open H (En)
/-- Boxes of requests lie as they lay. -/
def KR (w w' : World) : Prop := ∀ b l, Blk w b 33 l → Blk w' b 33 l
/-- The types of the queue's own blocks, but for the places of its heap and its handles. -/
def qts : List Nat := [116, 122, 111, 113, 119, 128]
/-- Whatever is none of the queue's lies as it lay. -/
structure KQ (a : TA) (w w' : World) : Prop where
  size : w.heap.size ≤ w'.heap.size
  blk : ∀ b T l, Blk w b T l → T ∉ qts → b ≠ a.ba → b ≠ a.bh → Blk w' b T l
theorem KQ.trans {a : TA} {u v w : World} (h : KQ a u v) (k : KQ a v w) : KQ a u w := ⟨Nat.le_trans h.size k.size, fun b T l hb h1 h2 h3 => k.blk b T l (h.blk b T l hb h1 h2 h3) h1 h2 h3⟩
theorem KQ.of_below {a : TA} {w w' : World} (h : Below w.heap.size w w') : KQ a w w' := ⟨h.size, fun b T l hb _ _ _ => hb.below h⟩
theorem KQ.of_kp {a : TA} {w w' : World} {S : List Nat} (k : Kp S w w') (hS : ∀ b ∈ S, b = a.ba ∨ b = a.bh ∨ w.heap.size ≤ b ∨ ∃ T l, Blk w b T l ∧ T ∈ qts) : KQ a w w' := ⟨k.size, fun b T l hb h1 h2 h3 => k.blk hb fun hm => by
  rcases hS b hm with e | e | e | ⟨T', l', hb', hT⟩
  · exact h2 e
  · exact h3 e
  · have := hb.lt; omega
  · refine blk_ne hb hb' (fun e => h1 ?_) rfl
    rw [e]; exact hT⟩
theorem KQ.row {α : Type} {d : Kd α} {a : TA} {w W : World} {e base : Nat} {ok : Nat → Prop} {v : Value} {xs : List α} (h : d.R e w base ok v xs) (k : KQ a w W) (he : ∀ q ∈ e :: d.E, q ∉ qts) (hok : ∀ b, ok b → b ≠ a.ba ∧ b ≠ a.bh) : d.R e W base ok v xs := by
  refine Kd.R_mono (Kd.R_move (Kd.R_bound h) (fun b hb => ?_)) (fun _ hk => hk.1)
  obtain ⟨h1, h2, h3, q, hq, cells, hc⟩ := hb
  have hb : Blk w b q cells.toList := by simpa [Blk] using hc
  exact (k.blk b q _ hb (he q hq) (hok b h1).1 (hok b h1).2).trans hb.symm
section
variable {w0 w W : World} {a : TA} {n m N : Nat} {s : Slb} {ch : List Nat} {L : List (List Nat)} {S : List En} {hs : List Int}
theorem tl_take (q : Rq) (i : Nat) (c : Cel) (h : TL w0 w a n m s ch N L S hs) (hN : N < 4294967294) (hn : s.next ch = some i) (hc : s.cells[i]? = some c) :
    Calls Try.prog 31 #[.pointer (some ⟨a.g, 0, none⟩), q.val] w fun e w' => e = .returned (.tuple #[.int .u64 ((c.turns + 1) * 4294967296 + i), .int .i64 0]) ∧ TL w0 w' a n m (s.taken i c q ch) (tailOf ch) (N + 1) L S hs ∧ KQ a w w' := by
  have hw := h.wf.taken q hn hc
  refine (take_wf q a.g a.gc i s ch N c w h.sl h.wf (by omega) hn hc).mono ?_
  rintro e w' ⟨rfl, h1, h2⟩
  refine ⟨rfl, h.slab h2 h1 hw, KQ.of_kp h2 fun b hm => ?_⟩
  simp only [List.mem_cons, List.not_mem_nil, or_false] at hm
  rcases hm with rfl | rfl
  · exact .inr (.inr (.inr ⟨_, _, h.sl.head, by decide⟩))
  · exact .inr (.inr (.inr ⟨_, _, h.sl.body, by decide⟩))
theorem tl_free (x : Int) (i : Nat) (c : Cel) (h : TL w0 w a n m s ch N L S hs) (hN : N < 4294967295) (h0 : 0 ≤ x) (h1 : x < 18446744073709551616) (ha : s.at x = some (i, c)) :
    Calls Try.prog 37 #[.pointer (some ⟨a.g, 0, none⟩), .int .u64 x] w fun e w' => e = .returned (.int .i64 0) ∧ TL w0 w' a n m (s.gone i c) (i :: ch) N L S hs ∧ KQ a w w' := by
  obtain ⟨hc, ht, _, _⟩ := Slb.at_spec ha h0
  have hw := (h.wf.gone hc ht).1
  refine (free_wf x a.g a.gc i s ch N c w h.sl h.wf hN h0 h1 ha).mono ?_
  rintro e w' ⟨rfl, h1, h2⟩
  refine ⟨rfl, h.slab h2 h1 hw, KQ.of_kp h2 fun b hm => ?_⟩
  simp only [List.mem_cons, List.not_mem_nil, or_false] at hm
  rcases hm with rfl | rfl
  · exact .inr (.inr (.inr ⟨_, _, h.sl.head, by decide⟩))
  · exact .inr (.inr (.inr ⟨_, _, h.sl.body, by decide⟩))
theorem tl_rows_kr (h : TL w0 w a n m s ch N L S hs) (k : Kp [a.br, a.bl] w W) : KQ a w W := KQ.of_kp k fun b hm => by
  obtain ⟨d, h1, _⟩ := h.dq
  simp only [List.mem_cons, List.not_mem_nil, or_false] at hm
  rcases hm with rfl | rfl
  · exact .inr (.inr (.inr ⟨_, _, h1.rows, by decide⟩))
  · exact .inr (.inr (.inr ⟨_, _, h1.links, by decide⟩))
theorem tl_push (t : Int) (r i : Nat) (l : List Nat) (h : TL w0 w a n m s ch N L S hs) (ht : t = r) (hl : L[r]? = some l) (him : i < m) (hn : ∀ (r' : Nat) l', L[r']? = some l' → i ∉ l') :
    Calls Try.prog 33 #[.pointer (some ⟨a.dg, 0, none⟩), .int .i64 t, .int .i64 i] w fun e w' => e = .returned (.int .i64 0) ∧ TL w0 w' a n m s ch N (L.set r (l ++ [i])) S hs ∧ KQ a w w' := by
  subst ht
  obtain ⟨d, h1, h2, h3⟩ := h.dq
  refine (push_dr r i a.dg a.br a.bl d L l w h1 h2 hl (by omega) hn).mono ?_
  rintro e w' ⟨rfl, d', hd', hD, hlen, hk⟩
  exact ⟨rfl, h.rows hk hd' hD (hlen.trans h3), tl_rows_kr h hk⟩
theorem tl_drop (r k i : Nat) (l : List Nat) (h : TL w0 w a n m s ch N L S hs) (hl : L[r]? = some l) (hk : l[k]? = some i) :
    Calls Try.prog 38 #[.pointer (some ⟨a.dg, 0, none⟩), .int .i64 i] w fun e w' => e = .returned (.int .i64 0) ∧ TL w0 w' a n m s ch N (L.set r (l.eraseIdx k)) S hs ∧ KQ a w w' := by
  obtain ⟨d, h1, h2, h3⟩ := h.dq
  refine (remove_dr r k i a.dg a.br a.bl d L l w h1 h2 hl hk).mono ?_
  rintro e w' ⟨rfl, d', hd', hD, hlen, hk⟩
  exact ⟨rfl, h.rows hk hd' hD (hlen.trans h3), tl_rows_kr h hk⟩
theorem tl_heap_kr {v : Value} (h : H.HM w0 w a.hg a.ba v S m) (k : Kp (H.hown a.hg a.ba v) w W) : KQ a w W := KQ.of_kp k fun b hm => by
  obtain ⟨l', a', hp, _⟩ := h.hs.ex
  rcases H.mem_hown.1 hm with rfl | rfl | hm
  · exact .inr (.inr (.inr ⟨_, _, hp.head, by decide⟩))
  · exact .inl rfl
  · obtain ⟨cells, hc⟩ := Kd.R_typed hp.row b hm
    exact .inr (.inr (.inr ⟨_, _, (show Blk w b 128 cells.toList by simpa [Blk] using hc), by decide⟩))
theorem KQ.kr (k : KQ a w W) (h : TL w0 w a n m s ch N L S hs) : KR w W := fun b l hb => by
  obtain ⟨v, hv⟩ := h.hp
  exact k.blk b _ l hb (by decide) (fun e => hs_away hv.hs hb (by decide) (by decide) (by decide) (H.mem_hown.2 (.inr (.inl e)))) (fun e => blk_ne hb h.hd (by decide) e)
theorem tl_hput (i : Nat) (key tie : Int) (h : TL w0 w a n m s ch N L S hs) (him : i < m) (hn : ∀ x ∈ S, x.i ≠ (i : Int)) :
    Calls Try.prog 34 #[.pointer (some ⟨a.hg, 0, none⟩), .int .i64 i, .int .i64 key, .int .u64 tie] w fun e w' => e = .returned (.int .i64 0) ∧ TL w0 w' a n m s ch N L (H.ins ⟨key, tie, i⟩ S) hs ∧ KQ a w w' := by
  obtain ⟨v, hv⟩ := h.hp
  refine (H.m_put w0 a.hg a.ba m v S ⟨key, tie, i⟩ w hv ⟨by show (0 : Int) ≤ (i : Int); omega, by show (i : Int) < (m : Int); omega⟩ hn).mono ?_
  rintro e w' ⟨rfl, v', h1⟩
  exact ⟨rfl, h.heap hv h1.kp h1.hm, tl_heap_kr hv h1.kp⟩
theorem tl_hrem (i : Nat) (h : TL w0 w a n m s ch N L S hs) (him : i < m) (hn : ∃ x ∈ S, x.i = (i : Int)) :
    Calls Try.prog 39 #[.pointer (some ⟨a.hg, 0, none⟩), .int .i64 i] w fun e w' => e = .returned (.int .i64 0) ∧ TL w0 w' a n m s ch N L (S.filter fun x => x.i ≠ (i : Int)) hs ∧ KQ a w w' := by
  obtain ⟨v, hv⟩ := h.hp
  refine (H.m_rem w0 a.hg a.ba m v S i w hv ⟨by omega, by omega⟩ hn).mono ?_
  rintro e w' ⟨rfl, v', h1⟩
  exact ⟨rfl, h.heap hv h1.kp h1.hm, tl_heap_kr hv h1.kp⟩
/-- Stores into a box of a request that is none of the queue's blocks. -/
theorem TL.box {b : Nat} {l : List Value} (h : TL w0 w a n m s ch N L S hs) (hb : Blk w b 33 l) (hl : w0.heap.size ≤ b) (k : Kp [b] w W) : TL w0 W a n m s ch N L S hs := by
  obtain ⟨d, h1, h2, h3⟩ := h.dq
  obtain ⟨v, h4⟩ := h.hp
  have nm : ∀ {b' T : Nat} {l' : List Value}, Blk w b' T l' → T ≠ 33 → b' ∉ [b] := fun hb' e1 hm => by
    rw [List.mem_singleton] at hm
    exact blk_ne hb' hb e1 hm
  refine ⟨k.blk h.head (nm h.head (by decide)), h.sl.kp k (nm h.sl.head (by decide)) (nm h.sl.body (by decide)), h.wf, ⟨d, h1.kp k (nm h1.head (by decide)) (nm h1.rows (by decide)) (nm h1.links (by decide)), h2, h3⟩, ⟨v, h4.kp k (fun b' hb' => ?_) (fun b' hb' => ?_)⟩, k.blk h.hd (nm h.hd (by decide)), h.lo, h.n8, h.m1⟩
  · rw [List.mem_singleton] at hb'
    subst hb'
    exact hs_away h4.hs hb (by decide) (by decide) (by decide)
  · rw [List.mem_singleton] at hb'
    subst hb'
    exact hl
theorem TW.away (h : TW n m s L S hs) {i : Nat} {c : Cel} (hc : s.cells[i]? = some c) (ht : c.taken = false) : (∀ (r' : Nat) l', L[r']? = some l' → i ∉ l') ∧ ∀ x ∈ S, x.i ≠ (i : Int) := by
  constructor
  · intro r' l' hl hi
    obtain ⟨d, h1, h2, _⟩ := h.rows r' l' i hl hi
    rw [hc] at h1
    injection h1 with h1
    rw [← h1, ht] at h2
    cases h2
  · intro x hx e
    obtain ⟨j, d, h1, h2, h3⟩ := (h.ents x).1 hx
    rw [h3] at e
    have e : (j : Int) = (i : Int) := e
    obtain rfl : j = i := by omega
    rw [hc] at h1
    injection h1 with h1
    rw [← h1, ht] at h2
    cases h2
end
end Go.Proofs.Ytifffmfbipjilaa.Z
namespace Go.Proofs.Ytifffmfbipjilaa.Z
open Go.RowKit Go.Proofs.YtifffmfbipjilaaW Go.Proofs.YtifffmfbipjilaaW.PrintWords
set_option linter.unusedVariables false
set_option linter.unusedSimpArgs false
open H (En)
section
variable {w0 : World} {a : TA} {n m N : Nat} {s : Slb} {ch : List Nat} {L : List (List Nat)} {S : List En} {hs : List Int}
set_option maxHeartbeats 8000000 in
set_option maxRecDepth 100000 in
theorem tq_put_ok (w : World) (q : Rq) (r i : Nat) (l : List Nat) (c : Cel) (h : TQ w0 w a n m s ch N L S hs) (hN : N < 4294967294) (hq : q.tier = r) (hl : L[r]? = some l) (hn : s.next ch = some i) (hc : s.cells[i]? = some c) :
    Calls Try.prog 10 #[.pointer (some ⟨a.gq, 0, none⟩), q.val] w fun e w' => e = .returned (.tuple #[.int .u64 ((c.turns + 1) * 4294967296 + i), .int .i64 0]) ∧
      TQ w0 w' a n m (s.taken i c q ch) (tailOf ch) (N + 1) (L.set r (l ++ [i])) (H.ins ⟨q.dl, q.t, i⟩ S) (hs.set i ((c.turns + 1) * 4294967296 + i)) ∧ KQ a w w' := by
  have hal := below_alloc (Below.refl _ w) (.cells #[.int .u64 q.t, .int .i64 q.tier, .int .i64 q.coh, .int .i64 q.dl, .int .i64 q.ar] 33)
  have hbx : Blk (w.alloc (.cells #[.int .u64 q.t, .int .i64 q.tier, .int .i64 q.coh, .int .i64 q.dl, .int .i64 q.ar] 33)) w.heap.size 33 q.enc := Blk.new w _ q.enc
  have h2 := h.below hal
  have hrn : r < n := by have := (List.getElem?_eq_some_iff.1 hl).1; have := h.tw.ll; omega
  have hq0 : 0 ≤ q.tier := by omega
  have hq1 : q.tier < n := by omega
  have t1 : decide (q.tier < 0) = false := decide_eq_false (by omega)
  have t2 : decide ((n : Int) ≤ q.tier) = false := decide_eq_false (by omega)
  have htk : c.taken = false := by
    obtain ⟨c', h1, h2, _⟩ := h.wf.some hn
    rw [hc] at h1
    injection h1 with h1
    rw [h1]; exact h2
  have htw := h.tw.put (N := N) (ch := ch) hc htk hq hl
  have haw := h.tw.away hc htk
  obtain ⟨hT0, hT1⟩ := h.wf.turns c (List.mem_of_getElem? hc)
  have him : i < m := by have := (List.getElem?_eq_some_iff.1 hc).1; have := h.tw.cl; omega
  have hm4 : m ≤ 1024 := h.m1.2
  have hi4 : (i : Int) < 1024 := by omega
  have him' : (i : Int) < (m : Int) := by omega
  have hi0 : (0 : Int) ≤ (i : Int) := by omega
  have hTN : c.turns < 4294967294 := by omega
  have hhl := h.tw.hl
  obtain ⟨gz, hgz⟩ : ∃ z, z = w.heap.size := ⟨_, rfl⟩
  rw [← hgz] at hbx
  have c4 := h2.head.cell 4 rfl
  have b1 := hbx.cell 1 rfl
  have HB := Aside0.mk hal
  unfold Rq.val
  have HE := Aside0.mk (And.intro htw (And.intro haw (And.intro hn (And.intro hc (And.intro hl (And.intro hq hhl))))))
  clear h hal htw haw hn hc hl hq htk hhl
  go_enter Try.func10, Try.ntmps10
  go_upto_region 3 with (fail)
  rw [← hgz]
  clear hgz
  generalize (w.alloc (.cells #[.int .u64 q.t, .int .i64 q.tier, .int .i64 q.coh, .int .i64 q.dl, .int .i64 q.ar] 33)) = W at *
  have H2 := Aside0.mk (And.intro h2 hbx)
  clear h2 hbx
  go_quiet (fail)
  have h3 := (H2.out.1.below (pw_below_drewN (Below.refl _ W) nq)).loose
  have hbx3 := H2.out.2.drewN_ (n := nq)
  clear c4 b1
  have hq3 : KQ a w (W.drewN nq) := KQ.of_below (pw_below_drewN HB.out nq)
  generalize W.drewN nq = V at *
  have Q3 := Aside0.mk hq3
  clear hq3
  have c0 := h3.head.cell 0 rfl
  have b0 := hbx3.cell 0 rfl
  have b1 := hbx3.cell 1 rfl
  have b2 := hbx3.cell 2 rfl
  have b3 := hbx3.cell 3 rfl
  have b4 := hbx3.cell 4 rfl
  have H3 := Aside0.mk h3
  have HX3 := Aside0.mk hbx3
  clear h3 hbx3
  go_upto_region 5 with (fail)
  go_region_held3 (fun w' => w'.cell? ⟨a.gq, 0, none⟩ = some (.pointer (some ⟨a.g, 0, none⟩)) ∧ w'.cell? ⟨gz, 0, none⟩ = some (.int .u64 q.t) ∧ w'.cell? ⟨gz, 1, none⟩ = some (.int .i64 q.tier) ∧ w'.cell? ⟨gz, 2, none⟩ = some (.int .i64 q.coh) ∧ w'.cell? ⟨gz, 3, none⟩ = some (.int .i64 q.dl) ∧ w'.cell? ⟨gz, 4, none⟩ = some (.int .i64 q.ar)) (go_keep) (first
    | (go_at_call 31; refine (tl_take q i c (H3.out.below (below_drew (Below.refl _ _))) hN HE.out.2.2.1 HE.out.2.2.2.1).mono ?_; rintro e w6 ⟨rfl, h6, k6⟩; have hx6 := k6.kr (H3.out.below (below_drew (Below.refl _ _))) _ _ HX3.out.drew_; have Q6 := Aside0.mk (Q3.out.trans ((KQ.of_below (below_drew (Below.refl _ V))).trans k6)); have d0 := hx6.cell 0 rfl; have d1 := hx6.cell 1 rfl; have d2 := hx6.cell 2 rfl; have d3 := hx6.cell 3 rfl; have d4 := hx6.cell 4 rfl; have d5 := h6.head.cell 0 rfl; have H6 := Aside0.mk (And.intro h6 hx6); clear h6 hx6 k6))
  clear c0 b0 b1 b2 b3 b4 d0 d1 d2 d3 d4 d5
  go_upto_region 9 with (go_at_call 32; refine (cell_i _ i _ (by omega) (by omega) (by omega)).mono ?_; rintro e w' ⟨rfl, rfl⟩)
  have c3 := H6.out.1.head.cell 3 rfl
  have hilen : i < hs.length := by have := HE.out.2.2.2.2.2.2; omega
  have ci := H6.out.1.hd.cell i (v := .int .u64 hs[i]) (by rw [List.getElem?_map, List.getElem?_eq_getElem hilen]; rfl)
  have cf := H6.out.1.hd.frozen i
  have h9 := H6.out.1.hand i ((c.turns + 1) * 4294967296 + i)
  have hx9 := H6.out.2.far (p := ⟨a.bh, i, none⟩) (fun e => blk_ne H6.out.2 H6.out.1.hd (by decide) e) (.int .u64 ((c.turns + 1) * 4294967296 + i))
  have hq9 : KQ a w (w6.setCell ⟨a.bh, i, none⟩ (.int .u64 ((c.turns + 1) * 4294967296 + i))) := Q6.out.trans (KQ.of_kp ((Kp.refl [a.bh] w6).set (p := ⟨a.bh, i, none⟩) (.inl (by simp)) _) (fun b hm => .inr (.inl (List.mem_singleton.1 hm))))
  have H9 := Aside0.mk (And.intro h9 hx9)
  clear h9 hx9
  go_upto_region 10 with (fail)
  clear ci cf c3
  generalize (w6.setCell ⟨a.bh, i, none⟩ (.int .u64 ((c.turns + 1) * 4294967296 + i))) = W9 at *
  have Q9 := Aside0.mk hq9
  clear hq9
  have c1 := H9.out.1.head.cell 1 rfl
  have b1 := H9.out.2.cell 1 rfl
  go_region_held3 (fun w' => w'.cell? ⟨a.gq, 1, none⟩ = some (.pointer (some ⟨a.dg, 0, none⟩)) ∧ w'.cell? ⟨gz, 1, none⟩ = some (.int .i64 q.tier)) (go_keep) (first
    | (go_at_call 33; refine (tl_push q.tier r i l (H9.out.1.below (below_drew (Below.refl _ _))) HE.out.2.2.2.2.2.1 HE.out.2.2.2.2.1 him HE.out.2.1.1).mono ?_; rintro e w10 ⟨rfl, h10, k10⟩; have hx10 := k10.kr (H9.out.1.below (below_drew (Below.refl _ _))) _ _ H9.out.2.drew_; have Q10 := Aside0.mk (Q9.out.trans ((KQ.of_below (below_drew (Below.refl _ W9))).trans k10)); have d1 := h10.head.cell 1 rfl; have d2 := hx10.cell 1 rfl; have H10 := Aside0.mk (And.intro h10 hx10); clear h10 hx10 k10))
  clear c1 b1 d1 d2
  have c2 := H10.out.1.head.cell 2 rfl
  have b0 := H10.out.2.cell 0 rfl
  have b3 := H10.out.2.cell 3 rfl
  go_upto_region 11 with (fail)
  go_region_held3 (fun w' => w'.cell? ⟨a.gq, 2, none⟩ = some (.pointer (some ⟨a.hg, 0, none⟩)) ∧ w'.cell? ⟨gz, 0, none⟩ = some (.int .u64 q.t) ∧ w'.cell? ⟨gz, 3, none⟩ = some (.int .i64 q.dl)) (go_keep) (first
    | (go_at_call 34; refine (tl_hput i q.dl q.t (H10.out.1.below (below_drew (Below.refl _ _))) him HE.out.2.1.2).mono ?_; rintro e w11 ⟨rfl, h11, k11⟩; have hx11 := k11.kr (H10.out.1.below (below_drew (Below.refl _ _))) _ _ H10.out.2.drew_; have Q11 := Aside0.mk (Q10.out.trans ((KQ.of_below (below_drew (Below.refl _ w10))).trans k11)); have d1 := h11.head.cell 2 rfl; have d2 := hx11.cell 0 rfl; have d3 := hx11.cell 3 rfl; have H11 := Aside0.mk h11; clear h11 hx11 k11))
  go_wp2_with (fail)
  go_ret2
  exact ⟨rfl, H11.out.tight HE.out.1, Q11.out⟩
end
end Go.Proofs.Ytifffmfbipjilaa.Z
namespace Go.Proofs.Ytifffmfbipjilaa.Z
open Go.RowKit Go.Proofs.YtifffmfbipjilaaW Go.Proofs.YtifffmfbipjilaaW.PrintWords
set_option linter.unusedVariables false
set_option linter.unusedSimpArgs false
open H (En)
section
variable {w0 : World} {a : TA} {n m N : Nat} {s : Slb} {ch : List Nat} {L : List (List Nat)} {S : List En} {hs : List Int}
set_option maxHeartbeats 8000000 in
set_option maxRecDepth 100000 in
theorem tq_take_stale (w : World) (hh : Int) (h : TQ w0 w a n m s ch N L S hs) (hN : N < 4294967295) (h0 : 0 ≤ hh) (h1 : hh < 18446744073709551616) (ha : s.at hh = none) :
    Calls Try.prog 13 #[.pointer (some ⟨a.gq, 0, none⟩), .int .u64 hh] w fun e w' => e = .returned (.tuple #[.agg #[.int .u64 0, .int .i64 0, .int .i64 0, .int .i64 0, .int .i64 0], .int .i64 6]) ∧ Below w.heap.size w w' := by
  have hb0 : Blk (w.alloc (.cells #[.int .u64 0, .int .i64 0, .int .i64 0, .int .i64 0, .int .i64 0] 33)) w.heap.size 33 [.int .u64 0, .int .i64 0, .int .i64 0, .int .i64 0, .int .i64 0] := Blk.new w _ _
  have hal := below_alloc (Below.refl _ w) (.cells #[.int .u64 0, .int .i64 0, .int .i64 0, .int .i64 0, .int .i64 0] 33)
  have HG := Aside0.mk (tq_get_stale _ hh (h.below hal) hN h0 h1 ha)
  obtain ⟨gz, hgz⟩ : ∃ z, z = w.heap.size := ⟨_, rfl⟩
  rw [← hgz] at hb0
  have HB0 := Aside0.mk (And.intro hb0 (And.intro hal hgz))
  clear h ha hb0 hal
  go_enter Try.func13, Try.ntmps13
  go_wp2_with (fail)
  refine HG.out.mono ?_
  rintro e w2 ⟨rfl, hb⟩
  rw [← hgz]
  clear hgz
  have h4 := (HB0.out.1.below hb).alloc (.cells #[.int .u64 0, .int .i64 0, .int .i64 0, .int .i64 0, .int .i64 0] 33)
  have h6 : Blk (w2.alloc (.cells #[.int .u64 0, .int .i64 0, .int .i64 0, .int .i64 0, .int .i64 0] 33)) w2.heap.size 33 [.int .u64 0, .int .i64 0, .int .i64 0, .int .i64 0, .int .i64 0] := Blk.new w2 _ _
  have hb6 := (HB0.out.2.1.trans (hb.mono HB0.out.2.1.size)).alloc (Nat.le_trans HB0.out.2.1.size hb.size) (.cells #[.int .u64 0, .int .i64 0, .int .i64 0, .int .i64 0, .int .i64 0] 33)
  have HH := Aside0.mk hb6
  clear hb hb6
  go_upto_region 2 with (fail)
  generalize w2.alloc (.cells #[.int .u64 0, .int .i64 0, .int .i64 0, .int .i64 0, .int .i64 0] 33) = W at *
  generalize w2.heap.size = g6 at *
  have x0 := h6.cell 0 rfl
  have x1 := h6.cell 1 rfl
  have x2 := h6.cell 2 rfl
  have x3 := h6.cell 3 rfl
  have x4 := h6.cell 4 rfl
  have z0 := h4.cell 0 rfl
  have z1 := h4.cell 1 rfl
  have z2 := h4.cell 2 rfl
  have z3 := h4.cell 3 rfl
  have z4 := h4.cell 4 rfl
  have zf : ∀ j, W.frozen? ⟨gz, j, none⟩ = false := fun j => h4.frozen j
  clear h4 h6
  go_wp2_with (fail)
  refine bodyPost_ret (v := .tuple #[.agg #[.int .u64 0, .int .i64 0, .int .i64 0, .int .i64 0, .int .i64 0], .int .i64 6]) (by simp [results, Try.results13, go_sem, *]) rfl ⟨rfl, ?_⟩
  have hb6 := HH.out
  rw [← HB0.out.2.2] at hb6 ⊢
  exact ((((hb6.setCell (Nat.le_refl _) _).setCell (Nat.le_refl _) _).setCell (Nat.le_refl _) _).setCell (Nat.le_refl _) _).setCell (Nat.le_refl _) _
set_option maxHeartbeats 8000000 in
set_option maxRecDepth 100000 in
theorem tq_take_ok (w : World) (hh : Int) (i r k : Nat) (c : Cel) (l : List Nat) (h : TQ w0 w a n m s ch N L S hs) (hN : N < 4294967295) (h0 : 0 ≤ hh) (h1 : hh < 18446744073709551616) (ha : s.at hh = some (i, c)) (hl : L[r]? = some l) (hk : l[k]? = some i) :
    Calls Try.prog 13 #[.pointer (some ⟨a.gq, 0, none⟩), .int .u64 hh] w fun e w' => e = .returned (.tuple #[c.q.val, .int .i64 0]) ∧
      TQ w0 w' a n m (s.gone i c) (i :: ch) N (L.set r (l.eraseIdx k)) (S.filter fun x => x.i ≠ (i : Int)) hs ∧ KQ a w w' := by
  have hb0 : Blk (w.alloc (.cells #[.int .u64 0, .int .i64 0, .int .i64 0, .int .i64 0, .int .i64 0] 33)) w.heap.size 33 [.int .u64 0, .int .i64 0, .int .i64 0, .int .i64 0, .int .i64 0] := Blk.new w _ _
  have hal := below_alloc (Below.refl _ w) (.cells #[.int .u64 0, .int .i64 0, .int .i64 0, .int .i64 0, .int .i64 0] 33)
  have h2 := h.below hal
  have HG := Aside0.mk (tq_get_ok _ hh i c h2 hN h0 h1 ha)
  obtain ⟨hc, ht, _, hmod⟩ := Slb.at_spec ha h0
  have him : i < m := by have := (List.getElem?_eq_some_iff.1 hc).1; have := h.tw.cl; omega
  have hS : ∃ x ∈ S, x.i = (i : Int) := ⟨_, (h.tw.ents _).2 ⟨i, c, hc, ht, rfl⟩, rfl⟩
  have htw : TW n m (s.gone i c) (L.set r (l.eraseIdx k)) (S.filter fun x => x.i ≠ (i : Int)) hs := by
    obtain ⟨d, _, hd, _⟩ := h.dq
    refine h.tw.gone hc ht hl hk (hd.nd r l hl) fun r' l' hl' hi => ?_
    obtain ⟨k', hk'⟩ := List.mem_iff_getElem?.1 hi
    exact (hd.one hl hk hl' hk').1
  obtain ⟨gz, hgz⟩ : ∃ z, z = w.heap.size := ⟨_, rfl⟩
  rw [← hgz] at hb0
  have HLO : Aside0 (w0.heap.size ≤ gz) := by
    obtain ⟨v, hv⟩ := h.hp
    exact Aside0.mk (hgz ▸ hv.bel.size)
  have HB0 := Aside0.mk (And.intro hb0 (And.intro h2.loose (And.intro hgz hal)))
  have HE := Aside0.mk (And.intro ha (And.intro hl (And.intro hk (And.intro hS htw))))
  clear h h2 ha hl hk hc ht hS htw hb0 hal
  unfold Rq.val at *
  generalize hq : c.q = q at *
  obtain ⟨qt, qr, qc, qd, qa⟩ := q
  have HQ := Aside0.mk hq
  clear hq
  go_enter Try.func13, Try.ntmps13
  go_wp2_with (fail)
  refine HG.out.mono ?_
  rintro e w2 ⟨rfl, hb⟩
  rw [← hgz]
  clear hgz
  have h4 := (HB0.out.1.below hb).alloc (.cells #[.int .u64 qt, .int .i64 qr, .int .i64 qc, .int .i64 qd, .int .i64 qa] 33)
  have h6 : Blk (w2.alloc (.cells #[.int .u64 qt, .int .i64 qr, .int .i64 qc, .int .i64 qd, .int .i64 qa] 33)) w2.heap.size 33 [.int .u64 qt, .int .i64 qr, .int .i64 qc, .int .i64 qd, .int .i64 qa] := Blk.new w2 _ _
  have h3 := (HB0.out.2.1.below hb).below (below_alloc (Below.refl _ w2) (.cells #[.int .u64 qt, .int .i64 qr, .int .i64 qc, .int .i64 qd, .int .i64 qa] 33))
  have hq3 : KQ a w (w2.alloc (.cells #[.int .u64 qt, .int .i64 qr, .int .i64 qc, .int .i64 qd, .int .i64 qa] 33)) := (KQ.of_below HB0.out.2.2.2).trans ((KQ.of_below hb).trans (KQ.of_below (below_alloc (Below.refl _ w2) _)))
  clear hb
  go_upto_region 2 with (fail)
  generalize w2.alloc (.cells #[.int .u64 qt, .int .i64 qr, .int .i64 qc, .int .i64 qd, .int .i64 qa] 33) = W at *
  generalize w2.heap.size = g6 at *
  have c0 := h3.head.cell 0 rfl
  have H3 := Aside0.mk (And.intro h3 (And.intro h4 h6))
  have Q3 := Aside0.mk hq3
  clear h3 h4 h6 hq3
  go_upto_region 5 with (go_at_call 37; refine (tl_free hh i c H3.out.1 hN h0 h1 HE.out.1).mono ?_; rintro e w3 ⟨rfl, h5, k5⟩; have c1 := h5.head.cell 1 rfl; have H5 := Aside0.mk (And.intro h5 (And.intro (k5.kr H3.out.1 _ _ H3.out.2.1) (k5.kr H3.out.1 _ _ H3.out.2.2))); have Q5 := Aside0.mk (Q3.out.trans k5); clear h5 k5)
  clear c0
  go_region_held3 (fun w' => w'.cell? ⟨a.gq, 1, none⟩ = some (.pointer (some ⟨a.dg, 0, none⟩))) (go_keep) (first
    | (go_at_call 32; refine (cell_i _ i _ h0 h1 hmod).mono ?_; rintro e w' ⟨rfl, rfl⟩)
    | (go_at_call 38; refine (tl_drop r k i l (H5.out.1.below (below_drew (Below.refl _ _))) HE.out.2.1 HE.out.2.2.1).mono ?_; rintro e w10 ⟨rfl, h10, k10⟩; have d1 := h10.head.cell 1 rfl; have H10 := Aside0.mk (And.intro h10 (And.intro (k10.kr (H5.out.1.below (below_drew (Below.refl _ _))) _ _ H5.out.2.1.drew_) (k10.kr (H5.out.1.below (below_drew (Below.refl _ _))) _ _ H5.out.2.2.drew_))); have Q10 := Aside0.mk (Q5.out.trans ((KQ.of_below (below_drew (Below.refl _ w3))).trans k10)); clear h10 k10))
  clear c1 d1
  have c2 := H10.out.1.head.cell 2 rfl
  go_upto_region 6 with (fail)
  go_region_held3 (fun w' => w'.cell? ⟨a.gq, 2, none⟩ = some (.pointer (some ⟨a.hg, 0, none⟩))) (go_keep) (first
    | (go_at_call 32; refine (cell_i _ i _ h0 h1 hmod).mono ?_; rintro e w' ⟨rfl, rfl⟩)
    | (go_at_call 39; refine (tl_hrem i (H10.out.1.below (below_drew (Below.refl _ _))) him HE.out.2.2.2.1).mono ?_; rintro e w11 ⟨rfl, h11, k11⟩; have d1 := h11.head.cell 2 rfl; have H11 := Aside0.mk (And.intro h11 (And.intro (k11.kr (H10.out.1.below (below_drew (Below.refl _ _))) _ _ H10.out.2.1.drew_) (k11.kr (H10.out.1.below (below_drew (Below.refl _ _))) _ _ H10.out.2.2.drew_))); have Q11 := Aside0.mk (Q10.out.trans ((KQ.of_below (below_drew (Below.refl _ w10))).trans k11)); clear h11 k11))
  clear c2 d1
  go_upto_region 7 with (fail)
  have h4 := H11.out.2.1
  have h6 := H11.out.2.2
  have x0 := h6.cell 0 rfl
  have x1 := h6.cell 1 rfl
  have x2 := h6.cell 2 rfl
  have x3 := h6.cell 3 rfl
  have x4 := h6.cell 4 rfl
  have z0 := h4.cell 0 rfl
  have z1 := h4.cell 1 rfl
  have z2 := h4.cell 2 rfl
  have z3 := h4.cell 3 rfl
  have z4 := h4.cell 4 rfl
  have zf : ∀ j, w11.frozen? ⟨gz, j, none⟩ = false := fun j => h4.frozen j
  clear h4 h6
  go_wp2_with (fail)
  refine bodyPost_ret (v := .tuple #[.agg #[.int .u64 qt, .int .i64 qr, .int .i64 qc, .int .i64 qd, .int .i64 qa], .int .i64 0]) (by simp [results, Try.results13, go_sem, *]) rfl ⟨rfl, ?_⟩
  have key : ∀ {W' : World}, Kp [gz] w11 W' → TQ w0 W' a n m (s.gone i c) (i :: ch) N (L.set r (l.eraseIdx k)) (S.filter fun x => x.i ≠ (i : Int)) hs ∧ KQ a w W' := fun k => by
    refine ⟨(H11.out.1.box H11.out.2.1 HLO.out k).tight HE.out.2.2.2.2, ⟨Nat.le_trans Q11.out.size k.size, fun b T l' hb g1 g2 g3 => k.blk (Q11.out.blk b T l' hb g1 g2 g3) fun hm => ?_⟩⟩
    have h1 := hb.lt
    have h2 := HB0.out.2.2.1
    rw [List.mem_singleton] at hm
    omega
  refine key ?_
  repeat (with_reducible apply Kp.set_; (· exact .inl (by simp)))
  exact Kp.refl _ _
end
end Go.Proofs.Ytifffmfbipjilaa.Z
namespace Go.Proofs.Ytifffmfbipjilaa.Z
open Go.RowKit Go.Proofs.YtifffmfbipjilaaW Go.Proofs.YtifffmfbipjilaaW.PrintWords
set_option linter.unusedVariables false
set_option linter.unusedSimpArgs false
open H (En)
/-- A handle and its request. -/
abbrev It := Int × Rq
def itm (s : Slb) (i : Nat) : It := match s.cells[i]? with
  | some c => (hof i c, c.q)
  | none => (0, Cel.nil.q)
def vw (s : Slb) (L : List (List Nat)) : List (List It) := L.map (List.map (itm s))
theorem itm_at {s : Slb} {i : Nat} {c : Cel} (h : s.cells[i]? = some c) : itm s i = (hof i c, c.q) := by unfold itm; rw [h]
theorem vw_at {s : Slb} {L : List (List Nat)} {r : Nat} {l : List Nat} (h : L[r]? = some l) : (vw s L)[r]? = some (l.map (itm s)) := by
  unfold vw; rw [List.getElem?_map, h]; rfl
theorem vw_of {s : Slb} {L : List (List Nat)} {r : Nat} {x : List It} (h : (vw s L)[r]? = some x) : ∃ l, L[r]? = some l ∧ x = l.map (itm s) := by
  unfold vw at h
  rw [List.getElem?_map] at h
  cases e : L[r]? with
  | none => rw [e] at h; cases h
  | some l =>
    rw [e] at h
    injection h with h
    exact ⟨l, rfl, h.symm⟩
theorem vw_flat (s : Slb) (L : List (List Nat)) : (vw s L).flatten = L.flatten.map (itm s) := by unfold vw; rw [List.map_flatten]
theorem vw_len (s : Slb) (L : List (List Nat)) : (vw s L).length = L.length := by unfold vw; rw [List.length_map]
theorem vw_new (n m : Nat) (s : Slb) : vw s (List.replicate n []) = List.replicate n [] := by unfold vw; rw [List.map_replicate]; rfl
theorem map_erase {α β : Type} (f : α → β) : ∀ (l : List α) (k : Nat), (l.eraseIdx k).map f = (l.map f).eraseIdx k
  | [], _ => rfl
  | x :: l, 0 => rfl
  | x :: l, k + 1 => by
    show f x :: (l.eraseIdx k).map f = f x :: (l.map f).eraseIdx k
    rw [map_erase f l k]
section
variable {n m N : Nat} {s : Slb} {ch : List Nat} {L : List (List Nat)} {S : List En} {hs : List Int}
theorem vw_put (h : TW n m s L S hs) {i r : Nat} {c : Cel} {q : Rq} {l : List Nat} (hc : s.cells[i]? = some c) (hct : c.taken = false) (hl : L[r]? = some l) :
    vw (s.taken i c q ch) (L.set r (l ++ [i])) = (vw s L).set r (l.map (itm s) ++ [(hof i ⟨q, c.turns + 1, true, c.next⟩, q)]) := by
  have hi : i < s.cells.length := (List.getElem?_eq_some_iff.1 hc).1
  have self : itm (s.taken i c q ch) i = (hof i ⟨q, c.turns + 1, true, c.next⟩, q) := itm_at (c := ⟨q, c.turns + 1, true, c.next⟩) (by rw [Slb.taken_cells]; exact List.getElem?_set_self hi)
  have other : ∀ j, i ≠ j → itm (s.taken i c q ch) j = itm s j := fun j hj => by
    unfold itm
    rw [Slb.taken_cells, List.getElem?_set_ne hj]
  have row : ∀ (r' : Nat) l', L[r']? = some l' → l'.map (itm (s.taken i c q ch)) = l'.map (itm s) := fun r' l' hl' => List.map_congr_left fun j hj => other j fun e => by
    subst e
    obtain ⟨d, h1, h2, _⟩ := h.rows r' l' i hl' hj
    rw [hc] at h1
    injection h1 with h1
    rw [← h1, hct] at h2
    cases h2
  unfold vw
  rw [List.map_set, List.map_append, List.map_cons, List.map_nil, self, row r l hl]
  congr 1
  exact List.map_congr_left fun l' hl' => by
    obtain ⟨r', hr'⟩ := List.mem_iff_getElem?.1 hl'
    exact row r' l' hr'
theorem itm_gone {i : Nat} {c : Cel} (hc : s.cells[i]? = some c) (j : Nat) : itm (s.gone i c) j = itm s j := by
  have hi : i < s.cells.length := (List.getElem?_eq_some_iff.1 hc).1
  by_cases hj : i = j
  · subst hj
    rw [itm_at hc]
    exact itm_at (c := ⟨c.q, c.turns, false, s.freed⟩) (List.getElem?_set_self hi)
  · unfold itm
    show (match (s.cells.set i _)[j]? with | some c => (hof j c, c.q) | none => (0, Cel.nil.q)) = _
    rw [List.getElem?_set_ne hj]
theorem vw_gone {i : Nat} {c : Cel} (hc : s.cells[i]? = some c) (r k : Nat) (l : List Nat) : vw (s.gone i c) (L.set r (l.eraseIdx k)) = (vw s L).set r ((l.map (itm s)).eraseIdx k) := by
  unfold vw
  rw [List.map_set, show itm (s.gone i c) = itm s from funext (itm_gone hc), map_erase]
theorem at_hof {i : Nat} {c : Cel} (hc : s.cells[i]? = some c) (ht : c.taken = true) (hi : i < 1024) : s.at (hof i c) = some (i, c) := by
  have e1 : (hof i c % 4294967296).toNat = i := by unfold hof; omega
  have e2 : hof i c / 4294967296 = c.turns := by unfold hof; omega
  unfold Slb.at
  rw [e1, e2, hc]
  exact if_pos ⟨ht, rfl⟩
theorem hof_bnd {i : Nat} {c : Cel} (h0 : 0 ≤ c.turns) (h1 : c.turns < 4294967296) (hi : i < 1024) : 0 ≤ hof i c ∧ hof i c < 18446744073709551616 := by unfold hof; omega
/-- A member of a row, told by its handle. -/
theorem TW.told (h : TW n m s L S hs) (hw : Wf s ch N) (hN : N < 4294967295) {r k : Nat} {l : List Nat} {i : Nat} (hl : L[r]? = some l) (hk : l[k]? = some i) :
    ∃ c, s.cells[i]? = some c ∧ c.taken = true ∧ c.q.tier = r ∧ s.at (hof i c) = some (i, c) ∧ itm s i = (hof i c, c.q) ∧ 0 ≤ hof i c ∧ hof i c < 18446744073709551616 ∧ hs[i]? = some (hof i c) := by
  obtain ⟨c, h1, h2, h3⟩ := h.rows r l i hl (List.mem_of_getElem? hk)
  have hi : i < 1024 := by have := (List.getElem?_eq_some_iff.1 h1).1; have := hw.room; omega
  obtain ⟨t0, t1⟩ := hw.turns32 hN c (List.mem_of_getElem? h1)
  exact ⟨c, h1, h2, h3, at_hof h1 h2 hi, itm_at h1, (hof_bnd t0 t1 hi).1, (hof_bnd t0 t1 hi).2, h.hand i c h1 h2⟩
theorem TW.stale (h : TW n m s L S hs) {x : Int} (h0 : 0 ≤ x) (hx : ∀ y ∈ (vw s L).flatten, y.1 ≠ x) : s.at x = none := by
  cases ha : s.at x with
  | none => rfl
  | some p =>
    obtain ⟨i, c⟩ := p
    obtain ⟨h1, h2, h3, h4⟩ := Slb.at_spec ha h0
    obtain ⟨r, l, h5, h6, _⟩ := h.home i c h1 h2
    refine absurd ?_ (hx (itm s i) ?_)
    · rw [itm_at h1]
      show hof i c = x
      unfold hof
      omega
    · rw [vw_flat]
      exact List.mem_map.2 ⟨i, List.mem_flatten.2 ⟨l, List.mem_of_getElem? h5, h6⟩, rfl⟩
theorem flat_nodup : ∀ {L : List (List Nat)}, (∀ (r : Nat) l, L[r]? = some l → l.Nodup) → (∀ {r r' i : Nat} {l l' : List Nat}, L[r]? = some l → i ∈ l → L[r']? = some l' → i ∈ l' → r = r') → L.flatten.Nodup
  | [], _, _ => List.nodup_nil
  | x :: L, h1, h2 => by
    rw [List.flatten_cons, List.nodup_append]
    refine ⟨h1 0 x rfl, flat_nodup (fun r l hl => h1 (r + 1) l hl) (fun {r r' i l l'} hl hi hl' hi' => by
      have := @h2 (r + 1) (r' + 1) i l l' hl hi hl' hi'
      omega), fun i hi j hj e => ?_⟩
    subst e
    obtain ⟨l, hl, hil⟩ := List.mem_flatten.1 hj
    obtain ⟨r, hr⟩ := List.mem_iff_getElem?.1 hl
    have := @h2 0 (r + 1) i x l rfl hi hr hil
    omega
theorem DR.flat_nodup {d : Dq} (h : DR d L) : L.flatten.Nodup := Z.flat_nodup h.nd fun {r r' i l l'} hl hi hl' hi' => by
  obtain ⟨k, hk⟩ := List.mem_iff_getElem?.1 hi
  obtain ⟨k', hk'⟩ := List.mem_iff_getElem?.1 hi'
  exact (h.one hl hk hl' hk').1
theorem pw_map_nodup {α β : Type} {f : α → β} : ∀ {l : List α}, l.Nodup → (∀ x ∈ l, ∀ y ∈ l, f x = f y → x = y) → (l.map f).Nodup
  | [], _, _ => List.nodup_nil
  | x :: l, h, hf => by
    obtain ⟨h1, h2⟩ := List.nodup_cons.1 h
    rw [List.map_cons, List.nodup_cons]
    refine ⟨fun hm => ?_, pw_map_nodup h2 (fun y hy z hz => hf y (List.mem_cons_of_mem _ hy) z (List.mem_cons_of_mem _ hz))⟩
    obtain ⟨y, hy, e⟩ := List.mem_map.1 hm
    rw [hf y (List.mem_cons_of_mem _ hy) x List.mem_cons_self e] at hy
    exact h1 hy
/-- The handles are distinct. -/
theorem TW.nodup {d : Dq} (h : TW n m s L S hs) (hw : Wf s ch N) (hd : DR d L) : ((vw s L).flatten.map (·.1)).Nodup := by
  rw [vw_flat, List.map_map]
  refine pw_map_nodup hd.flat_nodup fun x hx y hy e => ?_
  have key : ∀ {x : Nat}, x ∈ L.flatten → ((itm s x).1 % 4294967296) = (x : Int) := fun hx => by
    obtain ⟨l, hl, hxl⟩ := List.mem_flatten.1 hx
    obtain ⟨r, hr⟩ := List.mem_iff_getElem?.1 hl
    obtain ⟨c, h1, _, _⟩ := h.rows r l _ hr hxl
    have := (List.getElem?_eq_some_iff.1 h1).1
    have := hw.room
    rw [itm_at h1]
    show hof _ c % 4294967296 = _
    unfold hof
    omega
  have e1 := key hx
  have e2 := key hy
  have e : (itm s x).1 = (itm s y).1 := e
  rw [e] at e1
  omega
theorem Wf.next_ex (hw : Wf s ch N) (hl : s.len < s.cells.length) : ∃ i, s.next ch = Option.some i := by
  cases ch with
  | cons j l => exact ⟨j, rfl⟩
  | nil =>
    have := hw.len
    unfold Slb.next
    simp only [List.length_nil, Int.natCast_zero, Int.sub_zero, Int.ofNat_zero] at this
    rw [if_pos (by omega)]
    exact ⟨_, rfl⟩
theorem Wf.next_no (hw : Wf s ch N) (hl : s.len = s.cells.length) : s.next ch = Option.none := by
  have h1 := hw.len
  have h2 := hw.fresh1
  cases ch with
  | cons j l => simp only [List.length_cons] at h1; push_cast at h1; omega
  | nil =>
    unfold Slb.next
    simp only [List.length_nil, Int.natCast_zero, Int.sub_zero, Int.ofNat_zero] at h1
    exact if_neg (by omega)
end
end Go.Proofs.Ytifffmfbipjilaa.Z
namespace Go.Proofs.Ytifffmfbipjilaa.Z
open Go.RowKit Go.Proofs.YtifffmfbipjilaaW.PrintWords Go.Proofs.YtifffmfbipjilaaW.PrintLast Go.Proofs.YtifffmfbipjilaaW.PrintMore
attribute [local go_sem] max2_int min2_int max_two min_two max_three min_three max_four min_four
set_option linter.unusedVariables false
set_option linter.unusedSimpArgs false
open H (En)
section
variable {w0 : World} {a : TA} {n m N : Nat} {s : Slb} {ch : List Nat} {L : List (List Nat)} {S : List En} {hs : List Int}
/-- Who is due, as a handle and its request. -/
def dueOf (s : Slb) (S : List En) (now : Int) : List It := (H.dueL S now).map fun e => itm s e.i.toNat
theorem TW.entry (h : TW n m s L S hs) {x : En} (hx : x ∈ S) : ∃ (i : Nat) (c : Cel), s.cells[i]? = some c ∧ c.taken = true ∧ x = ⟨c.q.dl, c.q.t, i⟩ ∧ hs[i]? = some (itm s x.i.toNat).1 ∧ i < m := by
  obtain ⟨i, c, h1, h2, h3⟩ := (h.ents x).1 hx
  refine ⟨i, c, h1, h2, h3, ?_, ?_⟩
  · subst h3
    show hs[i]? = some (itm s i).1
    rw [itm_at h1, h.hand i c h1 h2]
  · have := (List.getElem?_eq_some_iff.1 h1).1
    have := h.cl
    omega
set_option maxHeartbeats 8000000 in
set_option maxRecDepth 100000 in
theorem tq_due (w : World) (now : Int) (h : TQ w0 w a n m s ch N L S hs) : Calls Try.prog 15 #[.pointer (some ⟨a.gq, 0, none⟩), .int .i64 now] w fun e w' => ∃ v, e = .returned v ∧ (Kd.int .u64).R 29 w' w.heap.size (fun _ => True) v ((dueOf s S now).map (·.1)) ∧ Below w.heap.size w w' := by
  have c2 := h.head.cell 2 rfl
  obtain ⟨v, hv⟩ := h.hp
  have HD := Aside0.mk (H.due_ok a.hg a.ba m v S now w hv.hs hv.srt)
  have HT := Aside0.mk h
  have hSm : S.length ≤ 1024 := by
    obtain ⟨l, a', _, _, hA, hp, hl⟩ := hv.hs.ex
    have h1 := hA.len_le
    have h2 := hp.length_eq
    have h3 := h.m1.2
    omega
  clear h hv
  go_enter Try.func15, Try.ntmps15
  go_wp2_with (fail)
  refine HD.out.mono ?_
  rintro e w1 ⟨v1, rfl, hR, hB⟩
  obtain ⟨A, cc, rfl⟩ := Kd.R_slice hR
  have hC := (Kd.R_reads' hR).2.2
  have HC := Aside0.mk (And.intro hC hB)
  clear hR hC hB HD
  go_wp2_with (fail)
  have hDl : (H.dueL S now).length ≤ 1024 := by
    have := List.length_filter_le (fun e : En => decide (e.key ≤ now)) S
    show (S.filter _).length ≤ 1024
    omega
  have hDS : ∀ x ∈ H.dueL S now, x ∈ S := fun x hx => (List.mem_filter.1 hx).1
  have HG := Aside0.mk (show dueOf s S now = (H.dueL S now).map fun e => itm s e.i.toNat from rfl)
  generalize H.dueL S now = D at *
  have HDS := Aside0.mk (And.intro hDS hDl)
  clear hDS hDl hSm
  obtain ⟨K, hK⟩ : ∃ K, K = D.length := ⟨_, rfl⟩
  rw [← hK]
  have HK := Aside0.mk hK
  clear hK
  have hbw := HC.out.2.size
  go_loopw [5, 17] (fun s' i wr => ∃ k : Nat, k ≤ K ∧ i = .int .i64 k ∧ (Kd.int .u64).R 29 wr w1.heap.size (fun _ => True) s' ((D.take k).map (fun e => (itm s e.i.toNat).1)) ∧ Below w1.heap.size w1 wr) (fun s' i _ => K - (intOf i).toNat)
  case atStart => exact ⟨0, Nat.zero_le _, rfl, Kd.R_nil _ _ _ _ _, Below.refl _ _⟩
  case round =>
    obtain ⟨k, hk, rfl, hR, hB⟩ := hrel
    by_cases hlt : k < K
    · obtain ⟨x, hx⟩ : ∃ x, D[k]? = some x := ⟨_, List.getElem?_eq_getElem (by rw [← HK.out]; exact hlt)⟩
      have hC := Kd.C_below HC.out.1 hB
      have hlm : (D.map (·.i)).length = K := by rw [List.length_map, HK.out]
      obtain ⟨ad, hA⟩ : ∃ ad, A = some ad := by
        obtain ⟨ad, hA, _⟩ := hC.2.2 (by rw [hlm]; omega)
        exact ⟨ad, hA⟩
      subst hA
      have y0 := int_came hC (i := k) (x := x.i) (by rw [List.getElem?_map, hx]; rfl)
      have hT := HT.out.below (HC.out.2.trans (hB.mono hbw))
      obtain ⟨i, c, h1, h2, h3, h4, h5⟩ := hT.tw.entry (HDS.out.1 x (List.mem_of_getElem? hx))
      have hxi : x.i = (i : Int) := by rw [h3]
      rw [hxi] at y0
      have c3 := hT.head.cell 3 rfl
      have y1 : wr.cell? ⟨a.bh, i, none⟩ = some (.int .u64 (itm s x.i.toNat).1) := hT.hd.cell i (by rw [List.getElem?_map, h4]; rfl)
      generalize hy : (itm s x.i.toNat).1 = y at *
      have i0 : (0 : Int) ≤ (i : Int) := by omega
      have i1 : (i : Int) < (m : Int) := by omega
      have hlt' : (k : Int) < (K : Int) := by omega
      have hkb : (k : Int) + 1 ≤ 1024 := by have := HDS.out.2; have := HK.out; omega
      have hlen : ((D.take k).map (fun e => (itm s e.i.toNat).1)).length = k := by rw [List.length_map, List.length_take, ← HK.out]; omega
      have h10 : (((D.take k).map (fun e => (itm s e.i.toNat).1)).length + 1) * 8 ≤ 140737488355328 := by rw [hlen]; omega
      obtain ⟨xs, hxs⟩ : ∃ xs, xs = ((D.take k).map (fun e => (itm s e.i.toNat).1)) := ⟨_, rfl⟩
      rw [← hxs] at hR h10
      have HXS := Aside0.mk hxs
      clear hxs
      have HR := Aside0.mk (And.intro hR (And.intro hB (And.intro hx hy)))
      have hbl := hB.size
      clear hR hB hC hx hT h1 h2 h3 h4 h5 hxi hlm hlen hy
      have HLT := Aside0.mk hlt
      go_wp2_with (at_builtin; refine Kd.R_append (Kd.int .u64) (w0 := w1) w1.heap.size rfl (.tmp 21) (.tmp 29) 43 29 (.int .u64 0) 8 rfl Try.underlying43 (by kernel_rfl) rfl (by decide) (by omega) u5 xs y [.int .u64 y] (fun _ => True) (fun _ => False) rfl rfl rfl (fun _ hk => hk.elim) (fun _ _ => trivial) HR.out.1 HR.out.2.1 hbl h10 ?_; intro v1 w3 hR1 hB1 hg1 ho1; have HR1 := Aside0.mk (And.intro hR1 hB1); clear hR1 hB1 hg1 ho1)
      have hlt2 := HLT.out
      clear h10
      refine ⟨⟨k + 1, by omega, by go_num, ?_, HR1.out.2⟩, by simp [intOf]; omega⟩
      have := HR1.out.1
      rw [HXS.out] at this
      rw [List.take_add_one, HR.out.2.2.1, List.map_append]
      show (Kd.int .u64).R _ _ _ _ _ (_ ++ [(itm s x.i.toNat).1])
      rw [HR.out.2.2.2]
      exact this
    · obtain rfl : k = K := by omega
      have HR := Aside0.mk (And.intro hR hB)
      clear hR hB
      go_wp2_with (fail)
      go_ret
      refine ⟨u5, rfl, ?_, HC.out.2.trans (HR.out.2.mono hbw)⟩
      have := Kd.R_lower HR.out.1 hbw
      rw [HK.out, List.take_length] at this
      rw [HG.out, List.map_map]
      exact this
end
end Go.Proofs.Ytifffmfbipjilaa.Z
namespace Go.Proofs.Ytifffmfbipjilaa.Z
open Go.RowKit Go.Proofs.YtifffmfbipjilaaW Go.Proofs.YtifffmfbipjilaaW.PrintWords
set_option linter.unusedVariables false
set_option linter.unusedSimpArgs false
open H (En)
/-- The queue holds just the rows R. -/
def TQA (w0 w : World) (a : TA) (n m N : Nat) (R : List (List It)) : Prop := ∃ s ch L S hs, TQ w0 w a n m s ch N L S hs ∧ R = vw s L
section
variable {w0 w W : World} {a : TA} {n m N : Nat} {R : List (List It)}
theorem TQA.below (h : TQA w0 w a n m N R) (hb : Below w.heap.size w W) : TQA w0 W a n m N R := by
  obtain ⟨s, ch, L, S, hs, h, e⟩ := h
  exact ⟨s, ch, L, S, hs, h.below hb, e⟩
theorem TQA.bel (h : TQA w0 w a n m N R) : Below w0.heap.size w0 w := by
  obtain ⟨s, ch, L, S, hs, h, e⟩ := h
  obtain ⟨v, hv⟩ := h.hp
  exact hv.bel
theorem TQA.rows (h : TQA w0 w a n m N R) : R.length = n := by
  obtain ⟨s, ch, L, S, hs, h, rfl⟩ := h
  rw [vw_len, h.tw.ll]
theorem TQA.nodup (h : TQA w0 w a n m N R) : (R.flatten.map (·.1)).Nodup := by
  obtain ⟨s, ch, L, S, hs, h, rfl⟩ := h
  obtain ⟨d, _, hd, _⟩ := h.dq
  exact h.tw.nodup h.wf hd
theorem TQA.room (h : TQA w0 w a n m N R) : R.flatten.length ≤ m := by
  obtain ⟨s, ch, L, S, hs, h, rfl⟩ := h
  have h1 := h.wf.len
  have h2 := h.wf.fresh1
  have h3 := h.tw.tot
  have h4 := h.tw.cl
  rw [vw_flat, List.length_map]
  omega
theorem TQA.item (h : TQA w0 w a n m N R) (hN : N < 4294967295) {r : Nat} {l : List It} {x : It} (hl : R[r]? = some l) (hx : x ∈ l) : x.2.tier = r ∧ 0 ≤ x.1 ∧ x.1 < 18446744073709551616 := by
  obtain ⟨s, ch, L, S, hs, h, rfl⟩ := h
  obtain ⟨l', h1, rfl⟩ := vw_of hl
  obtain ⟨i, hi, rfl⟩ := List.mem_map.1 hx
  obtain ⟨k, hk⟩ := List.mem_iff_getElem?.1 hi
  obtain ⟨c, _, _, h3, _, h5, h6, h7, _⟩ := h.tw.told h.wf hN h1 hk
  rw [h5]
  exact ⟨h3, h6, h7⟩
theorem a_len (h : TQA w0 w a n m N R) : Calls Try.prog 14 #[.pointer (some ⟨a.gq, 0, none⟩)] w fun e w' => e = .returned (.int .i64 R.flatten.length) ∧ w = w' := by
  obtain ⟨s, ch, L, S, hs, h, rfl⟩ := h
  have := tq_len w h
  rw [h.tw.tot] at this
  rw [vw_flat, List.length_map]
  exact this
theorem vw_flat_nil {s : Slb} {L : List (List Nat)} (h : (vw s L).flatten = []) : L.flatten = [] := by
  rw [vw_flat] at h
  exact List.map_eq_nil_iff.1 h
theorem a_first_no (h : TQA w0 w a n m N R) (he : R.flatten = []) : Calls Try.prog 11 #[.pointer (some ⟨a.gq, 0, none⟩)] w fun e w' => e = .returned (.tuple #[.int .i64 0, .bool false]) ∧ w = w' := by
  obtain ⟨s, ch, L, S, hs, h, rfl⟩ := h
  exact tq_first_no w h (vw_flat_nil he)
theorem a_last_no (h : TQA w0 w a n m N R) (he : R.flatten = []) : Calls Try.prog 24 #[.pointer (some ⟨a.gq, 0, none⟩)] w fun e w' => e = .returned (.tuple #[.int .i64 0, .bool false]) ∧ w = w' := by
  obtain ⟨s, ch, L, S, hs, h, rfl⟩ := h
  exact tq_last_no w h (vw_flat_nil he)
theorem a_first (h : TQA w0 w a n m N R) (he : R.flatten ≠ []) : ∃ (r : Nat) (l : List It), R[r]? = some l ∧ l ≠ [] ∧ (∀ (r' : Nat), r' < r → R[r']? = some []) ∧
    Calls Try.prog 11 #[.pointer (some ⟨a.gq, 0, none⟩)] w fun e w' => e = .returned (.tuple #[.int .i64 r, .bool true]) ∧ w = w' := by
  obtain ⟨s, ch, L, S, hs, h, rfl⟩ := h
  obtain ⟨r, l, h1, h2, h3⟩ := first_ex (L := L) (fun e => he (by rw [vw_flat, e]; rfl))
  exact ⟨r, _, vw_at h1, fun e => h2 (List.map_eq_nil_iff.1 e), fun r' hr => vw_at (h3 r' hr), tq_first_ok w r l h h1 h2 h3⟩
theorem a_last (h : TQA w0 w a n m N R) (he : R.flatten ≠ []) : ∃ (r : Nat) (l : List It), R[r]? = some l ∧ l ≠ [] ∧ (∀ (r' : Nat), r < r' → r' < R.length → R[r']? = some []) ∧
    Calls Try.prog 24 #[.pointer (some ⟨a.gq, 0, none⟩)] w fun e w' => e = .returned (.tuple #[.int .i64 r, .bool true]) ∧ w = w' := by
  obtain ⟨s, ch, L, S, hs, h, rfl⟩ := h
  obtain ⟨r, l, h1, h2, h3⟩ := last_ex (L := L) (fun e => he (by rw [vw_flat, e]; rfl))
  exact ⟨r, _, vw_at h1, fun e => h2 (List.map_eq_nil_iff.1 e), fun r' hr hr' => vw_at (h3 r' hr (by rw [vw_len] at hr'; exact hr')), tq_last_ok w r l h h1 h2 h3⟩
theorem a_head (h : TQA w0 w a n m N R) (hN : N < 4294967295) {r : Nat} {x : It} {l : List It} (hl : R[r]? = some (x :: l)) : Calls Try.prog 12 #[.pointer (some ⟨a.gq, 0, none⟩), .int .i64 r] w fun e w' => e = .returned (.tuple #[.int .u64 x.1, .bool true]) ∧ w = w' := by
  obtain ⟨s, ch, L, S, hs, h, rfl⟩ := h
  obtain ⟨l', h1, e⟩ := vw_of hl
  cases l' with
  | nil => cases e
  | cons i l' =>
    rw [List.map_cons] at e
    injection e with e1 e2
    obtain ⟨c, _, _, _, _, h5, _, _, h8⟩ := h.tw.told h.wf hN h1 (k := 0) rfl
    rw [e1, h5]
    exact tq_head w r i (i :: l') _ h h1 (by simp) (nth_some rfl) h8
theorem a_put_arg (q : Rq) (h : TQA w0 w a n m N R) (hq : ¬ (0 ≤ q.tier ∧ q.tier < n)) : Calls Try.prog 10 #[.pointer (some ⟨a.gq, 0, none⟩), q.val] w fun e w' => e = .returned (.tuple #[.int .u64 0, .int .i64 1]) ∧ TQA w0 w' a n m N R ∧ KQ a w w' := by
  obtain ⟨s, ch, L, S, hs, h, rfl⟩ := h
  refine (tq_put_arg w q h hq).mono ?_
  rintro e w' ⟨rfl, hb⟩
  exact ⟨rfl, ⟨s, ch, L, S, hs, h.below hb, rfl⟩, KQ.of_below hb⟩
theorem a_put_full (q : Rq) (h : TQA w0 w a n m N R) (h0 : 0 ≤ q.tier) (h1 : q.tier < n) (hm : R.flatten.length = m) : Calls Try.prog 10 #[.pointer (some ⟨a.gq, 0, none⟩), q.val] w fun e w' => e = .returned (.tuple #[.int .u64 0, .int .i64 4]) ∧ TQA w0 w' a n m N R ∧ KQ a w w' := by
  obtain ⟨s, ch, L, S, hs, h, rfl⟩ := h
  have h3 := h.tw.tot
  have h4 := h.tw.cl
  rw [vw_flat, List.length_map] at hm
  refine (tq_put_full w q h h0 h1 (h.wf.next_no (by omega))).mono ?_
  rintro e w' ⟨rfl, hb⟩
  exact ⟨rfl, ⟨s, ch, L, S, hs, h.below hb, rfl⟩, KQ.of_below hb⟩
theorem a_put (q : Rq) (h : TQA w0 w a n m N R) (hN : N < 4294967294) {r : Nat} {l : List It} (hq : q.tier = r) (hl : R[r]? = some l) (hm : R.flatten.length < m) : Calls Try.prog 10 #[.pointer (some ⟨a.gq, 0, none⟩), q.val] w fun e w' => ∃ x : Int, e = .returned (.tuple #[.int .u64 x, .int .i64 0]) ∧ TQA w0 w' a n m (N + 1) (R.set r (l ++ [(x, q)])) ∧ KQ a w w' := by
  obtain ⟨s, ch, L, S, hs, h, rfl⟩ := h
  have h3 := h.tw.tot
  have h4 := h.tw.cl
  rw [vw_flat, List.length_map] at hm
  obtain ⟨l', h1, rfl⟩ := vw_of hl
  obtain ⟨i, hi⟩ := h.wf.next_ex (by omega)
  obtain ⟨c, hc, ht, _⟩ := h.wf.some hi
  refine (tq_put_ok w q r i l' c h hN hq h1 hi hc).mono ?_
  rintro e w' ⟨rfl, hw, hk⟩
  exact ⟨_, rfl, ⟨_, _, _, _, _, hw, (vw_put h.tw hc ht h1).symm⟩, hk⟩
theorem a_take_stale (x : Int) (h : TQA w0 w a n m N R) (hN : N < 4294967295) (h0 : 0 ≤ x) (h1 : x < 18446744073709551616) (hx : ∀ y ∈ R.flatten, y.1 ≠ x) : Calls Try.prog 13 #[.pointer (some ⟨a.gq, 0, none⟩), .int .u64 x] w fun e w' => e = .returned (.tuple #[.agg #[.int .u64 0, .int .i64 0, .int .i64 0, .int .i64 0, .int .i64 0], .int .i64 6]) ∧ TQA w0 w' a n m N R ∧ KQ a w w' := by
  obtain ⟨s, ch, L, S, hs, h, rfl⟩ := h
  refine (tq_take_stale w x h hN h0 h1 (h.tw.stale h0 hx)).mono ?_
  rintro e w' ⟨rfl, hb⟩
  exact ⟨rfl, ⟨s, ch, L, S, hs, h.below hb, rfl⟩, KQ.of_below hb⟩
theorem a_take (h : TQA w0 w a n m N R) (hN : N < 4294967295) {r k : Nat} {l : List It} {x : It} (hl : R[r]? = some l) (hk : l[k]? = some x) : Calls Try.prog 13 #[.pointer (some ⟨a.gq, 0, none⟩), .int .u64 x.1] w fun e w' => e = .returned (.tuple #[x.2.val, .int .i64 0]) ∧ TQA w0 w' a n m N (R.set r (l.eraseIdx k)) ∧ KQ a w w' := by
  obtain ⟨s, ch, L, S, hs, h, rfl⟩ := h
  obtain ⟨l', h1, rfl⟩ := vw_of hl
  rw [List.getElem?_map] at hk
  obtain ⟨i, hi, rfl⟩ := Option.map_eq_some_iff.1 hk
  obtain ⟨c, h2, h3, _, h5, h6, h7, h8, _⟩ := h.tw.told h.wf hN h1 hi
  rw [h6]
  refine (tq_take_ok w (hof i c) i r k c l' h hN h7 h8 h5 h1 hi).mono ?_
  rintro e w' ⟨rfl, hw, hk⟩
  exact ⟨rfl, ⟨_, _, _, _, _, hw, (vw_gone h2 r k l').symm⟩, hk⟩
end
end Go.Proofs.Ytifffmfbipjilaa.Z
namespace Go.Proofs.Ytifffmfbipjilaa.Z
open Go.RowKit Go.Proofs.YtifffmfbipjilaaW Go.Proofs.YtifffmfbipjilaaW.PrintWords
set_option linter.unusedVariables false
set_option linter.unusedSimpArgs false
section
variable {w0 w W : World} {a : TA} {n m N : Nat} {R : List (List It)}
theorem a_new (n m : Nat) (h1 : 1 ≤ n) (h2 : n ≤ 8) (h3 : 1 ≤ m) (h4 : m ≤ 1024) (w : World) : Calls Try.prog 9 #[.int .i64 n, .int .i64 m] w fun e w' => ∃ a : TA, e = .returned (.tuple #[.pointer (some ⟨a.gq, 0, none⟩), .int .i64 0]) ∧ TQA w w' a n m 0 (List.replicate n []) := by
  refine (tq_new n m h1 h2 h3 h4 w).mono ?_
  rintro e w' ⟨a, hs, rfl, h⟩
  exact ⟨a, rfl, _, _, _, _, _, h, (vw_new n m _).symm⟩
theorem a_first_at (h : TQA w0 w a n m N R) {r : Nat} {l : List It} (hl : R[r]? = some l) (hne : l ≠ []) (hb : ∀ (r' : Nat), r' < r → R[r']? = some []) :
    Calls Try.prog 11 #[.pointer (some ⟨a.gq, 0, none⟩)] w fun e w' => e = .returned (.tuple #[.int .i64 r, .bool true]) ∧ w = w' := by
  obtain ⟨s, ch, L, S, hs, h, rfl⟩ := h
  obtain ⟨l', h1, rfl⟩ := vw_of hl
  exact tq_first_ok w r l' h h1 (fun e => hne (by rw [e]; rfl)) fun r' hr => by
    obtain ⟨l2, h2, e⟩ := vw_of (hb r' hr)
    rw [h2, List.map_eq_nil_iff.1 e.symm]
theorem a_last_at (h : TQA w0 w a n m N R) {r : Nat} {l : List It} (hl : R[r]? = some l) (hne : l ≠ []) (hb : ∀ (r' : Nat), r < r' → r' < R.length → R[r']? = some []) :
    Calls Try.prog 24 #[.pointer (some ⟨a.gq, 0, none⟩)] w fun e w' => e = .returned (.tuple #[.int .i64 r, .bool true]) ∧ w = w' := by
  obtain ⟨s, ch, L, S, hs, h, rfl⟩ := h
  obtain ⟨l', h1, rfl⟩ := vw_of hl
  exact tq_last_ok w r l' h h1 (fun e => hne (by rw [e]; rfl)) fun r' hr hr' => by
    obtain ⟨l2, h2, e⟩ := vw_of (hb r' hr (by rw [vw_len]; exact hr'))
    rw [h2, List.map_eq_nil_iff.1 e.symm]
end
set_option maxHeartbeats 8000000 in
set_option maxRecDepth 100000 in
theorem awake_ok (w : World) : Calls Try.prog 8 #[] w fun e w' => e = .returned (.bool true) ∧ Below w.heap.size w w' := by
  have HN := Aside0.mk (a_new 2 4 (by omega) (by omega) (by omega) (by omega) w)
  go_enter Try.func8, Try.ntmps8
  go_wp2_with (fail)
  refine HN.out.mono ?_
  rintro e w1 ⟨a, rfl, h1⟩
  have H1 := Aside0.mk h1
  clear h1 HN
  go_wp2_with (fail)
  refine (a_put ⟨0, 1, 0, 0, 0⟩ H1.out (by omega) (r := 1) (l := []) rfl rfl (by decide)).mono ?_
  rintro e w2 ⟨x, rfl, h2, _⟩
  have H2 := Aside0.mk h2
  clear h2 H1
  go_wp2_with (fail)
  refine (a_put ⟨0, 0, 0, 0, 0⟩ H2.out (by omega) (r := 0) (l := []) rfl rfl (by simp)).mono ?_
  rintro e w3 ⟨y, rfl, h3, _⟩
  have H3 := Aside0.mk h3
  clear h3 H2
  go_wp2_with (fail)
  refine (a_first_at H3.out (r := 0) rfl (by simp) (fun r' hr => by omega)).mono ?_
  rintro e w' ⟨rfl, rfl⟩
  go_wp2_with (fail)
  refine (a_last_at H3.out (r := 1) rfl (by simp) (fun r' hr hr' => by simp at hr'; omega)).mono ?_
  rintro e w' ⟨rfl, rfl⟩
  go_wp2_with (fail)
  go_ret
  exact ⟨rfl, H3.out.bel⟩
end Go.Proofs.Ytifffmfbipjilaa.Z
