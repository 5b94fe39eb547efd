/- HeapPlays. -/
import Derived.Test.YtphkahphpgipkaaHpym
namespace Go.Proofs.Ytphkahphpgipkaa.Z
open Go.RowKit Go.Proofs.YtphkahphpgipkaaW.PrintWords Go.Proofs.YtphkahphpgipkaaW.PrintLast Go.Proofs.YtphkahphpgipkaaW.PrintMore
attribute [local go_sem] max2_int min2_int max_two min_two max_three min_three max_four min_four
set_option linter.unusedVariables false
set_option linter.unusedSimpArgs false
structure Act where
  do_ : Int
  i : Int
  key : Int
  tie : Int
def Act.enc (a : Act) : List Value := [.int .u8 a.do_, .int .i64 a.i, .int .i64 a.key, .int .u64 a.tie]
def Act.kd : Kd Act := fk Act.enc 4 (fun _ => rfl) (fun x u hu => by simp [Act.enc] at hu; rcases hu with rfl | rfl | rfl | rfl <;> rfl)
abbrev Act.ok (a : Act) : Prop := (Lit.int .u8 a.do_).wf = true ∧ (Lit.int .i64 a.i).wf = true ∧ (Lit.int .i64 a.key).wf = true ∧ (Lit.int .u64 a.tie).wf = true
theorem Act.came {w : World} {ad : Addr} {n : Nat} {xs : List Act} (h : Act.kd.C w (some ad) n xs) {i : Nat} {x : Act} (hx : xs[i]? = some x) :
    w.cell? (ad.add (i * 4)) = some (.int .u8 x.do_) ∧ w.cell? ⟨(ad.add (i * 4)).block, (ad.add (i * 4)).off + 1, none⟩ = some (.int .i64 x.i) ∧ w.cell? ⟨(ad.add (i * 4)).block, (ad.add (i * 4)).off + 2, none⟩ = some (.int .i64 x.key) ∧ w.cell? ⟨(ad.add (i * 4)).block, (ad.add (i * 4)).off + 3, none⟩ = some (.int .u64 x.tie) :=
  have k := fk_came h hx
  ⟨k.1 _ rfl, k.2 0 _ rfl, k.2 1 _ rfl, k.2 2 _ rfl⟩
/-- Both heaps, over one list. -/
structure PL (w1 w : World) (g ba gx n : Nat) (v vx : Value) (S : List En) : Prop where
  hm : HM w1 w g ba v S n
  rh : RH w 0 gx vx S n
  lo : w1.heap.size ≤ gx
theorem PL.below {w1 w w' : World} {g ba gx n : Nat} {v vx : Value} {S : List En} (h : PL w1 w g ba gx n v vx S) (hb : Below w.heap.size w w') : PL w1 w' g ba gx n v vx S :=
  ⟨h.hm.below hb, h.rh.below hb, h.lo⟩
theorem HS.away {w : World} {g ba room b T : Nat} {v : Value} {S : List En} {l : List Value} (h : HS w g ba v S room) (hb : Blk w b T l) (h1 : T ≠ 60) (h2 : T ≠ 3) (h3 : T ≠ 63) : b ∉ hown g ba v := by
  obtain ⟨l', a, hp, _⟩ := h.ex
  have key : ∀ {t : Nat} {l2 : List Value}, Blk w b t l2 → T = t := fun h2 => by
    have := hb.symm.trans h2
    injection this with this
    injection this
  intro hm
  rcases mem_hown.1 hm with rfl | rfl | hm
  · exact h1 (key hp.head)
  · exact h2 (key hp.ats)
  · obtain ⟨cells, hc⟩ := Kd.R_typed hp.row b hm
    exact h3 (key (l2 := cells.toList) (by simpa [Blk] using hc))
theorem gq_ne {w1 w : World} {g ba gx n gq : Nat} {v vx : Value} {S : List En} {l : List Value} (h : PL w1 w g ba gx n v vx S) (hb : Blk w gq 51 l) : gq ≠ gx := fun e => by
  have h2 := (e ▸ hb : Blk w gx 51 l).symm.trans h.rh.head
  injection h2 with h2
  injection h2 with _ e2 _
  exact absurd e2 (by decide)
theorem dueL_len (S : List En) (x : Int) : (dueL S x).length ≤ S.length := List.length_filter_le _ _
set_option maxHeartbeats 8000000 in
set_option maxRecDepth 100000 in
theorem heapPlays_body (rm : Int) (A : Option Addr) (cap : Nat) (acts : List Act) (w : World) (hrm : (Lit.int .u8 rm).wf = true) (hC : Act.kd.C w A acts.length acts) (hlc : acts.length ≤ cap) (hcap : cap ≤ maxLen) (hok : ∀ x ∈ acts, x.ok) :
    Calls Try.prog 6 #[.int .u8 rm, .slice A acts.length cap] w fun e w' => e = .returned (.bool true) ∧ Below w.heap.size w w' := by
  unfold maxLen at hcap
  have hr := wf_u8 hrm
  obtain ⟨n, hn, hn1, hn2⟩ : ∃ n : Nat, 1 + rm % 30 = (n : Int) ∧ 1 ≤ n ∧ n ≤ 30 := ⟨(1 + rm % 30).toNat, by omega, by omega, by omega⟩
  have HC := Aside0.mk hC
  have HOK := Aside0.mk hok
  obtain ⟨hr1, hr2⟩ := hr
  clear hC hok hrm
  go_enter Try.func6, Try.ntmps6
  go_wp2_with (fail)
  refine (awake_ok _).mono ?_
  rintro e w1 ⟨rfl, hb⟩
  have HB := Aside0.mk hb
  have HC1 := Aside0.mk (Kd.C_below HC.out hb)
  have HN := Aside0.mk (m_new n (by omega) (by omega) w1)
  clear hb HC
  go_wp2_with (fail)
  refine HN.out.mono ?_
  rintro e w2 ⟨g, ba, rfl, hM⟩
  have hxb : Blk (w2.alloc (.cells #[.slice none 0 0, .int .i64 n] 39)) w2.heap.size 39 [.slice none 0 0, .int .i64 n] := Blk.new w2 39 [.slice none 0 0, .int .i64 n]
  have hM1 := hM.below (below_alloc (Below.refl _ w2) (.cells #[.slice none 0 0, .int .i64 n] 39))
  have HX := Aside0.mk (PL.mk hM1 (RH.mk (base := 0) hxb (Kd.R_nil _ _ _ _ _)) hM.bel.size)
  clear hM hxb hM1 HN
  go_wp2_with (fail)
  obtain ⟨gx, hgxe⟩ : ∃ gx, gx = w2.heap.size := ⟨_, rfl⟩
  rw [← hgxe] at HX
  rw [← hgxe]
  clear hgxe
  generalize (w2.alloc (Obj.cells #[Value.slice none 0 0, Value.int IntKind.i64 n] 39)) = W3 at *
  obtain ⟨N, hNa⟩ : ∃ N, N = acts.length := ⟨_, rfl⟩
  rw [← hNa] at HC1 hlc
  rw [← hNa]
  have HNA := Aside0.mk hNa
  clear hNa hn
  go_loopw [38] (fun i wr => ∃ (k : Nat) (v vx : Value) (S : List En), k ≤ N ∧ i = .int .i64 k ∧ PL w1 wr g ba gx n v vx S) (fun i _ => N - (intOf i).toNat)
  case atStart => exact ⟨0, _, _, [], Nat.zero_le _, rfl, HX.out⟩
  case round =>
    clear HX
    obtain ⟨k, v, vx, S, hk, rfl, hP⟩ := hrel
    by_cases hlt : k < N
    · have hlt' : (k : Int) < (N : Int) := by omega
      have k0 : (0 : Int) ≤ (k : Int) := by omega
      obtain ⟨ad, rfl⟩ : ∃ ad, A = some ad := by
        obtain ⟨ad, h, _⟩ := HC1.out.2.2 (by have := HC1.out.1; omega)
        exact ⟨ad, h⟩
      obtain ⟨x, hx⟩ : ∃ x, acts[k]? = some x := ⟨_, List.getElem?_eq_getElem (by rw [← HNA.out]; exact hlt)⟩
      have hxok := HOK.out x (List.mem_of_getElem? hx)
      obtain ⟨e0, e1, e2, e3⟩ := Act.came (Kd.C_below HC1.out hP.hm.bel) hx
      have hdo := wf_u8 hxok.1
      have HP := Aside0.mk hP
      clear hx hxok hP
      by_cases h80 : k < 80
      · have h80' : (k : Int) < 80 := by omega
        have hkb : (k : Int) + 1 ≤ 1024 := by omega
        go_upto_block 2 with (fail)
        obtain ⟨gq, hgq⟩ : ∃ q, q = wr.heap.size := ⟨_, rfl⟩
        have hbox : Blk (wr.alloc (.cells #[.int .u8 x.do_, .int .i64 x.i, .int .i64 x.key, .int .u64 x.tie] 51)) wr.heap.size 51 x.enc := Blk.new wr 51 x.enc
        have hp5 := HP.out.below (below_alloc (Below.refl _ wr) (.cells #[.int .u8 x.do_, .int .i64 x.i, .int .i64 x.key, .int .u64 x.tie] 51))
        rw [← hgq] at hbox
        rw [← hgq]
        clear hgq e0 e1 e2 e3
        generalize (wr.alloc (.cells #[.int .u8 x.do_, .int .i64 x.i, .int .i64 x.key, .int .u64 x.tie] 51)) = w5 at *
        have HQ := Aside0.mk (And.intro hp5 hbox)
        clear hp5 hbox HP
        go_cut [11, 12, 13, 14] from 48 (fun s11 s12 s13 s14 wx => ∃ (v vx : Value) (S : List En) (r : Int), s11 = .int .i64 r ∧ s12 = .int .i64 r ∧ PL w1 wx g ba gx n v vx S ∧ Blk wx gq 51 x.enc)
        case first =>
          have hdo1 : 0 ≤ x.do_ % 6 ∧ x.do_ % 6 < 6 := by omega
          by_cases q3 : x.do_ % 6 = 3
          · have b3 : (x.do_ % 6 == 3) = true := by simp [q3]
            clear q3 hdo1
            go_upto_region 16 with (fail)
            have hj : InjI S := HQ.out.1.hm.hs.inj
            have hsl := HQ.out.1.hm.hs.len
            have q1 := HQ.out.2.cell 1 rfl
            have nq := gq_ne HQ.out.1 HQ.out.2
            have HS := Aside0.mk (And.intro hj (And.intro hsl nq))
            clear hj hsl nq
            go_region_held3 (fun w' => w'.cell? ⟨gq, 1, none⟩ = some (.int .i64 x.i)) (first | assumption | go_keep) (first
              | (go_at_call 16; refine (rem_m w1 g ba n v S x.i _ (HQ.out.1.below (below_drew (Below.refl _ _))).hm).mono ?_; rintro e w6 ⟨rfl, v6, hm6, hk6⟩; have hbx6 := hk6.blk HQ.out.2.drew_ (HQ.out.1.hm.hs.away HQ.out.2 (by decide) (by decide) (by decide)); have hrh6 := (HQ.out.1.below (below_drew (Below.refl _ _))).rh.kp hk6 (HQ.out.1.below (below_drew (Below.refl _ _))).hm.hs.typed; have p1 := hbx6.cell 1 rfl; have H6 := Aside0.mk (And.intro hm6 (And.intro hrh6 hbx6)); clear hm6 hrh6 hbx6 hk6)
              | (go_at_call 17; refine (rrem_m gx n vx S x.i _ H6.out.2.1 (by have := HS.out.2.1; omega) (by have := HS.out.2.1; omega) HQ.out.1.hm.srt HS.out.1).mono ?_; rintro e w7 ⟨rfl, vx7, hr7, hk7⟩; have hbx7 := hk7.blk H6.out.2.2 (by rw [List.mem_singleton]; exact HS.out.2.2); have s1 := hbx7.cell 1 rfl; have H7 := Aside0.mk (And.intro hr7 (And.intro hk7 hbx7)); clear hr7 hk7 hbx7))
            clear s1 p1 q1
            go_wp2_with (fail)
            go_meet
            case rel =>
              have hk := H7.out.2.1
              have hm := H6.out.1.kp hk (by intro b hb; rw [List.mem_singleton] at hb; subst hb; exact RH.away H6.out.1.hs H6.out.2.1) (by intro b hb; rw [List.mem_singleton] at hb; subst hb; exact HQ.out.1.lo)
              exact ⟨v6, vx7, _, _, rfl, rfl, ⟨hm, H7.out.1, HQ.out.1.lo⟩, H7.out.2.2⟩
          · by_cases q4 : x.do_ % 6 = 4
            · have b3 : (x.do_ % 6 == 3) = false := by simp [q3]
              have b4 : (x.do_ % 6 == 4) = true := by simp [q4]
              clear q3 q4 hdo1
              have hmin := min_set g ba n v S w5 HQ.out.1.hm.hs HQ.out.1.hm.srt
              by_cases hS0 : S = []
              · rw [show decide (S ≠ []) = false by simp [hS0]] at hmin
                have HMIN := Aside0.mk hmin
                have HSE := Aside0.mk hS0
                clear hmin hS0
                go_wp2_with (go_at_call 15; refine HMIN.out.mono ?_; rintro e w6 ⟨rfl, rfl⟩)
                go_meet
                case rel => exact ⟨v, vx, S, 0, rfl, rfl, HQ.out.1, HQ.out.2⟩
              · rw [show decide (S ≠ []) = true by simp [hS0]] at hmin
                have HMIN := Aside0.mk hmin
                have HSE := Aside0.mk hS0
                have hj : InjI S := HQ.out.1.hm.hs.inj
                have hsl := HQ.out.1.hm.hs.len
                have nq := gq_ne HQ.out.1 HQ.out.2
                have HS := Aside0.mk (And.intro hj (And.intro hsl nq))
                clear hmin hS0 hj hsl nq
                go_wp2_with (go_at_call 15; refine HMIN.out.mono ?_; rintro e w6 ⟨rfl, rfl⟩)
                refine (rem_m w1 g ba n v S (minI S) _ HQ.out.1.hm).mono ?_
                rintro e w6 ⟨rfl, v6, hm6, hk6⟩
                have hbx6 := hk6.blk HQ.out.2 (HQ.out.1.hm.hs.away HQ.out.2 (by decide) (by decide) (by decide))
                have hrh6 := HQ.out.1.rh.kp hk6 HQ.out.1.hm.hs.typed
                have H6 := Aside0.mk (And.intro hm6 (And.intro hrh6 hbx6))
                clear hm6 hrh6 hbx6 hk6 HMIN
                go_wp2_with (fail)
                refine (rrem_m gx n vx S (minI S) _ H6.out.2.1 (by have := HS.out.2.1; omega) (by have := HS.out.2.1; omega) HQ.out.1.hm.srt HS.out.1).mono ?_
                rintro e w7 ⟨rfl, vx7, hr7, hk7⟩
                have hbx7 := hk7.blk H6.out.2.2 (by rw [List.mem_singleton]; exact HS.out.2.2)
                have H7 := Aside0.mk (And.intro hr7 (And.intro hk7 hbx7))
                clear hr7 hk7 hbx7
                go_wp2_with (fail)
                go_meet
                case rel =>
                  have hk := H7.out.2.1
                  have hm := H6.out.1.kp hk (by intro b hb; rw [List.mem_singleton] at hb; subst hb; exact RH.away H6.out.1.hs H6.out.2.1) (by intro b hb; rw [List.mem_singleton] at hb; subst hb; exact HQ.out.1.lo)
                  exact ⟨v6, vx7, _, _, rfl, rfl, ⟨hm, H7.out.1, HQ.out.1.lo⟩, H7.out.2.2⟩
            · by_cases q5 : x.do_ % 6 = 5
              · have b3 : (x.do_ % 6 == 3) = false := by simp [q3]
                have b4 : (x.do_ % 6 == 4) = false := by simp [q4]
                have b5 : (x.do_ % 6 == 5) = true := by simp [q5]
                clear q3 q4 q5 hdo1
                go_upto_region 22 with (fail)
                have q2 := HQ.out.2.cell 2 rfl
                have hsl := HQ.out.1.hm.hs.len
                have HD := Aside0.mk (dueL_len S x.key)
                have HS := Aside0.mk hsl
                clear hsl
                obtain ⟨D, hD⟩ : ∃ D, D = (dueL S x.key).map (·.i) := ⟨_, rfl⟩
                have HDL : Aside0 (D.length ≤ 1000) := ⟨by have := HS.out; have := HD.out; rw [hD, List.length_map]; omega⟩
                have HDD := Aside0.mk hD
                clear hD
                go_region_held3 (fun w' => w'.cell? ⟨gq, 2, none⟩ = some (.int .i64 x.key)) (first | assumption | go_keep) (first
                  | (go_at_call 11; refine (due_ok g ba n v S x.key _ (HQ.out.1.below (below_drew (Below.refl _ _))).hm.hs HQ.out.1.hm.srt).mono ?_; rintro e w6 ⟨v6, rfl, hR6, hb6⟩; rw [← HDD.out] at hR6; obtain ⟨A6, c6, rfl⟩ := Kd.R_slice hR6; have hC6 := (Kd.R_reads' hR6).2.2; have hp6 := (HQ.out.1.below (below_drew (Below.refl _ _))).below hb6; have hbx6 := HQ.out.2.drew_.below hb6; have p2 := hbx6.cell 2 rfl; have H6 := Aside0.mk (And.intro hp6 (And.intro hbx6 hC6)); clear hp6 hbx6 hC6 hR6 hb6)
                  | (go_at_call 18; refine (rdue_ok gx n vx S x.key _ H6.out.1.rh (by have := HS.out; omega)).mono ?_; rintro e w7 ⟨v7, rfl, hR7, hb7⟩; rw [← HDD.out] at hR7; obtain ⟨A7, c7, rfl⟩ := Kd.R_slice hR7; have hC7 := (Kd.R_reads' hR7).2.2; have hp7 := H6.out.1.below hb7; have hbx7 := H6.out.2.1.below hb7; have p3 := hbx7.cell 2 rfl; have H7 := Aside0.mk (And.intro hp7 (And.intro hbx7 (And.intro (Kd.C_below H6.out.2.2 hb7) hC7))); clear hp7 hbx7 hC7 hR7 hb7)
                  | (go_at_call 12; refine (equal_i _ _ _ _ D _ H7.out.2.2.1 H7.out.2.2.2 HDL.out).mono ?_; rintro e w8 ⟨rfl, hb8⟩; have hp8 := H7.out.1.below hb8; have hbx8 := H7.out.2.1.below hb8; have p4 := hbx8.cell 2 rfl; have H8 := Aside0.mk (And.intro hp8 hbx8); clear hp8 hbx8 hb8))
                clear q2 p2 p3 p4
                go_wp2_with (fail)
                go_meet
                case rel => exact ⟨v, vx, S, 0, rfl, rfl, H8.out.1, H8.out.2⟩
              · have b3 : (x.do_ % 6 == 3) = false := by simp [q3]
                have b4 : (x.do_ % 6 == 4) = false := by simp [q4]
                have b5 : (x.do_ % 6 == 5) = false := by simp [q5]
                clear q3 q4 q5 hdo1
                go_upto_region 14 with (fail)
                have hj : InjI S := HQ.out.1.hm.hs.inj
                have hsl := HQ.out.1.hm.hs.len
                have q1 := HQ.out.2.cell 1 rfl
                have q2 := HQ.out.2.cell 2 rfl
                have q3 := HQ.out.2.cell 3 rfl
                have nq : gq ≠ gx := fun e => by
                  have h1 : Blk w5 gx 51 x.enc := e ▸ HQ.out.2
                  have h2 := h1.symm.trans HQ.out.1.rh.head
                  injection h2 with h2
                  injection h2 with _ e2 _
                  exact absurd e2 (by decide)
                have HS := Aside0.mk (And.intro hj (And.intro hsl nq))
                clear hj hsl nq
                go_region_held3 (fun w' => w'.cell? ⟨gq, 1, none⟩ = some (.int .i64 x.i) ∧ w'.cell? ⟨gq, 2, none⟩ = some (.int .i64 x.key) ∧ w'.cell? ⟨gq, 3, none⟩ = some (.int .u64 x.tie)) (first | exact ⟨by assumption, by assumption, by assumption⟩ | go_keep) (first
                  | (go_at_call 10; refine (put_m w1 g ba n v S ⟨x.key, x.tie, x.i⟩ _ (HQ.out.1.below (below_drew (Below.refl _ _))).hm).mono ?_; rintro e w6 ⟨rfl, v6, hm6, hk6⟩; have hbx6 := hk6.blk HQ.out.2.drew_ (HQ.out.1.hm.hs.away HQ.out.2 (by decide) (by decide) (by decide)); have hrh6 := (HQ.out.1.below (below_drew (Below.refl _ _))).rh.kp hk6 (HQ.out.1.below (below_drew (Below.refl _ _))).hm.hs.typed; have p1 := hbx6.cell 1 rfl; have p2 := hbx6.cell 2 rfl; have p3 := hbx6.cell 3 rfl; have H6 := Aside0.mk (And.intro hm6 (And.intro hrh6 hbx6)); clear hm6 hrh6 hbx6 hk6)
                  | (go_at_call 14; refine (rput_m gx n vx S ⟨x.key, x.tie, x.i⟩ _ H6.out.2.1 (by have := HS.out.2.1; omega) (by have := HS.out.2.1; omega) HQ.out.1.hm.srt HS.out.1).mono ?_; rintro e w7 ⟨rfl, vx7, hr7, hk7⟩; have hbx7 := hk7.blk H6.out.2.2 (by rw [List.mem_singleton]; exact HS.out.2.2); have s1 := hbx7.cell 1 rfl; have s2 := hbx7.cell 2 rfl; have s3 := hbx7.cell 3 rfl; have H7 := Aside0.mk (And.intro hr7 (And.intro hk7 hbx7)); clear hr7 hk7 hbx7))
                clear s1 s2 s3 p1 p2 p3 q1 q2 q3
                go_wp2_with (fail)
                go_meet
                case rel =>
                  have hk := H7.out.2.1
                  have hm := H6.out.1.kp hk (by intro b hb; rw [List.mem_singleton] at hb; subst hb; exact RH.away H6.out.1.hs H6.out.2.1) (by intro b hb; rw [List.mem_singleton] at hb; subst hb; exact HQ.out.1.lo)
                  exact ⟨v6, vx7, _, _, rfl, rfl, ⟨hm, H7.out.1, HQ.out.1.lo⟩, H7.out.2.2⟩
        case rest =>
          clear HQ
          obtain ⟨v, vx, S, r, rfl, rfl, hp, hbox⟩ := hcut
          obtain ⟨A, c, hvx⟩ := Kd.R_slice hp.rh.row
          obtain ⟨M, hM⟩ : ∃ M, M = S.length := ⟨_, rfl⟩
          rw [← hM] at hvx
          have hsl := hp.hm.hs.len
          rw [← hM] at hsl
          have rr : (r != r) = false := by simp
          have q1 := hbox.cell 1 rfl
          have hmin := min_set g ba n v S wc hp.hm.hs hp.hm.srt
          have hlen : ∀ m, Calls Try.prog 13 #[.pointer (some ⟨g, 0, none⟩)] (wc.drewN m) fun e w' => e = .returned (.int .i64 M) ∧ w' = wc.drewN m := fun m => by
            have := len_set g ba n v S (wc.drewN m) (hp.hm.hs.below (pw_below_drewN (Below.refl _ _) m))
            rw [← hM] at this
            exact this.mono fun e w' ⟨h1, h2⟩ => ⟨h1, h2.symm⟩
          have HL := Aside0.mk hlen
          have HP := Aside0.mk (And.intro hp hbox)
          by_cases hS0 : S = []
          · rw [show decide (S ≠ []) = false by simp [hS0], show minI S = 0 by rw [hS0]; rfl] at hmin
            have hM0 : M = 0 := by rw [hM, hS0]; rfl
            subst hM0
            subst hvx
            have x0 := hp.rh.head.cell 0 rfl
            have HC := Aside0.mk (And.intro hmin hS0)
            clear hmin hlen hp hbox hS0 hM hsl
            go_wp2_with (go_at_call 15; refine HC.out.1.mono ?_; rintro e w6 ⟨rfl, rfl⟩)
            go_quiet ((go_at_call 13; exact Calls.quiet_of_same (HL.out _)))
            have hp := HP.out.1.below (pw_below_drewN (Below.refl _ wc) nq)
            have hbox := HP.out.2.drewN_ (n := nq)
            have hkey := key_no g ba n v S x.i _ hp.hm.hs (by rw [HC.out.2]; intro e he; cases he)
            have hfind := find_no 0 gx n (.slice A 0 c) S x.i _ hp.rh (by rw [HC.out.2]; simp) (by rw [HC.out.2]; intro e he; cases he)
            clear q1 x0
            have q1 := hbox.cell 1 rfl
            have HF := Aside0.mk (And.intro hp (And.intro hkey hfind))
            clear hp hbox hkey hfind HL
            generalize (wc.drewN nq) = wd at *
            go_wp2_with (go_at_call 19; refine HF.out.2.1.mono ?_; rintro e w6 ⟨rfl, rfl⟩)
            refine HF.out.2.2.mono ?_
            rintro e w7 ⟨rfl, rfl⟩
            go_wp2_with (fail)
            exact ⟨⟨k + 1, v, _, S, by omega, by go_num, HF.out.1⟩, by simp [intOf]; omega⟩
          · obtain ⟨y, S', hSe⟩ : ∃ y S', S = y :: S' := by
              cases S with
              | nil => exact absurd rfl hS0
              | cons y S' => exact ⟨y, S', rfl⟩
            rw [show decide (S ≠ []) = true by simp [hS0], show minI S = y.i by rw [hSe]; rfl] at hmin
            have hM1 : (0 : Int) < (M : Int) := by rw [hM, hSe]; simp
            have hMn : 0 < M := by omega
            obtain ⟨gr, c', hv⟩ := hp.rh.form (by rw [hSe]; simp)
            rw [← hM] at hv
            rw [hv] at hvx
            injection hvx with e1 _ e3
            subst e1 e3
            subst hv
            have x0 := hp.rh.head.cell 0 rfl
            have x1 := (hp.rh.cells (k := 0) (e := y) (by rw [hSe]; rfl)).1
            rw [Nat.zero_mul] at x1
            have yy : (y.i != y.i) = false := by simp
            have mm : ((M : Int) != (M : Int)) = false := by simp
            have HC := Aside0.mk (And.intro hmin hM)
            clear hmin hlen hp hbox hS0 hM hSe
            go_wp2_with (go_at_call 15; refine HC.out.1.mono ?_; rintro e w6 ⟨rfl, rfl⟩)
            go_quiet ((go_at_call 13; exact Calls.quiet_of_same (HL.out _)))
            have hp := HP.out.1.below (pw_below_drewN (Below.refl _ wc) nq)
            have hbox := HP.out.2.drewN_ (n := nq)
            clear q1 x0 x1 yy mm HL
            by_cases hin : ∃ u ∈ S, u.i = x.i
            · obtain ⟨u, hu, hui⟩ := hin
              obtain ⟨pp, hpp⟩ := List.mem_iff_getElem?.1 hu
              have hpl := (List.getElem?_eq_some_iff.1 hpp).1
              rw [← HC.out.2] at hpl
              have hkey := key_in g ba n v S u _ hp.hm.hs hu
              have hj : InjI S := hp.hm.hs.inj
              have hpos := hj.pos hp.hm.srt.nodup hpp
              rw [hui] at hkey hpos
              have hfind : ∀ V, Below (wc.drewN nq).heap.size (wc.drewN nq) V → Calls Try.prog 20 #[.pointer (some ⟨gx, 0, none⟩), .int .i64 x.i] V fun r w' => r = .returned (.int .i64 pp) ∧ V = w' := fun V hV => by
                have := find_at 0 gx n pp _ S u V (hp.below hV).rh (by have := hp.hm.hs.len; omega) hpp (fun j e h1 h2 => hpos j e h1 (h2.trans hui))
                rwa [hui] at this
              have q1 := hbox.cell 1 rfl
              have uu : (u.key != u.key) = false := by simp
              have p0 : (0 : Int) ≤ (pp : Int) := by omega
              have p1 : (pp : Int) < (M : Int) := by omega
              have HF := Aside0.mk (And.intro hp (And.intro hbox (And.intro hkey (And.intro hfind hpp))))
              clear hp hbox hkey hfind hpp hpos hj hui hu
              generalize (wc.drewN nq) = wd at *
              go_wp2_with (fail)
              refine HF.out.2.2.1.mono ?_
              rintro e w6 ⟨rfl, hb6⟩
              have q2 := (HF.out.2.1.below hb6).cell 1 rfl
              have hp6 := HF.out.1.below hb6
              have x0 := hp6.rh.head.cell 0 rfl
              have x1 := (hp6.rh.cells HF.out.2.2.2.2).2.1
              have hfind := HF.out.2.2.2.1 w6 hb6
              have HG := Aside0.mk (And.intro hp6 hfind)
              clear hp6 hfind hb6 q1
              go_wp2_with (fail)
              refine HG.out.2.mono ?_
              rintro e w7 ⟨rfl, rfl⟩
              go_wp2_with (fail)
              exact ⟨⟨k + 1, v, _, S, by omega, by go_num, HG.out.1⟩, by simp [intOf]; omega⟩
            · have hno : ∀ e ∈ S, e.i ≠ x.i := fun e he h => hin ⟨e, he, h⟩
              have hkey := key_no g ba n v S x.i _ hp.hm.hs hno
              have hfind := find_no 0 gx n _ S x.i _ hp.rh (by have := hp.hm.hs.len; omega) hno
              have q1 := hbox.cell 1 rfl
              have HF := Aside0.mk (And.intro hp (And.intro hkey hfind))
              clear hp hbox hkey hfind hno hin
              generalize (wc.drewN nq) = wd at *
              go_wp2_with (go_at_call 19; refine HF.out.2.1.mono ?_; rintro e w6 ⟨rfl, rfl⟩)
              refine HF.out.2.2.mono ?_
              rintro e w7 ⟨rfl, rfl⟩
              go_wp2_with (fail)
              exact ⟨⟨k + 1, v, _, S, by omega, by go_num, HF.out.1⟩, by simp [intOf]; omega⟩
      · have h80' : ¬ (k : Int) < 80 := by omega
        have HBF := Aside0.mk (HP.out.below (below_alloc (Below.refl _ wr) (.cells x.enc.toArray 51))).hm.bel
        go_wp2_with (fail)
        go_ret
        exact ⟨rfl, HB.out.trans (HBF.out.mono HB.out.size)⟩
    · obtain rfl : k = N := by omega
      have HBF := Aside0.mk hP.hm.bel
      clear hP
      go_wp2_with (fail)
      go_ret
      exact ⟨rfl, HB.out.trans (HBF.out.mono HB.out.size)⟩
end Go.Proofs.Ytphkahphpgipkaa.Z
