/- DequeParts. -/
import Derived.Test.YtofapimappeppaaDqa
import Derived.Deep.CutBlock
namespace Go.Proofs.Ytofapimappeppaa.Z
open Go.RowKit Go.Proofs.YtofapimappeppaaW.PrintWords Go.Proofs.YtofapimappeppaaW.PrintLast Go.Proofs.YtofapimappeppaaW.PrintMore
attribute [local go_sem] max2_int min2_int max_two min_two max_three min_three max_four min_four
set_option linter.unusedVariables false
set_option linter.unusedSimpArgs false
theorem countP_or {α : Type} (p q : α → Bool) : ∀ s : List α, (∀ x ∈ s, ¬ (p x = true ∧ q x = true)) → s.countP (fun x => p x || q x) = s.countP p + s.countP q
  | [], _ => rfl
  | a :: s, h => by
    have ih := countP_or p q s (fun x hx => h x (List.mem_cons_of_mem _ hx))
    have ha := h a (List.mem_cons_self)
    rw [List.countP_cons, List.countP_cons, List.countP_cons, ih]
    cases hp : p a <;> cases hq : q a <;> simp_all <;> omega
theorem countP_one (a : Nat) : ∀ m : Nat, a < m → (List.range m).countP (fun x => decide (x = a)) = 1 := by
  have h0 : ∀ m : Nat, m ≤ a → (List.range m).countP (fun x => decide (x = a)) = 0 := fun m hm => by
    rw [List.countP_eq_zero]
    intro x hx
    rw [List.mem_range] at hx
    simp; omega
  intro m
  induction m with
  | zero => omega
  | succ m ih =>
    intro h
    rw [List.range_succ, List.countP_append]
    by_cases hm : a = m
    · subst hm; rw [h0 a (Nat.le_refl _)]; simp
    · rw [ih (by omega)]; simp; omega
theorem countP_mem (m : Nat) : ∀ l : List Nat, l.Nodup → (∀ x ∈ l, x < m) → (List.range m).countP (fun x => decide (x ∈ l)) = l.length
  | [], _, _ => by simp
  | a :: l, hn, h => by
    rw [List.nodup_cons] at hn
    have e : (fun x => decide (x ∈ a :: l)) = fun x => decide (x = a) || decide (x ∈ l) := by
      funext x; simp
    rw [e, countP_or _ _ _ (fun x _ => by simp; intro hx; exact hx ▸ hn.1), countP_one a m (h a (List.mem_cons_self)), countP_mem m l hn.2 (fun x hx => h x (List.mem_cons_of_mem _ hx))]
    simp; omega
theorem countP_rows (m : Nat) : ∀ L : List (List Nat), (∀ l ∈ L, l.Nodup ∧ ∀ x ∈ l, x < m) → L.Pairwise (fun l l' => ∀ x ∈ l, x ∉ l') → (List.range m).countP (isIn L) = (L.map List.length).sum
  | [], _, _ => by simp [isIn]
  | l :: L, h, hp => by
    rw [List.pairwise_cons] at hp
    have e : isIn (l :: L) = fun x => decide (x ∈ l) || isIn L x := by
      funext x; simp [isIn]
    rw [e, countP_or _ _ _ (fun x _ hx => by
      obtain ⟨r, l', hl', hm⟩ := isIn_iff.1 hx.2
      exact hp.1 l' (List.mem_of_getElem? hl') x (of_decide_eq_true hx.1) hm), countP_mem m l (h l (List.mem_cons_self)).1 (h l (List.mem_cons_self)).2, countP_rows m L (fun l' hl' => h l' (List.mem_cons_of_mem _ hl')) hp.2]
    simp
theorem DR.count {d : Dq} {L : List (List Nat)} (h : DR d L) : (List.range d.links.length).countP (isIn L) = (L.map List.length).sum := by
  refine countP_rows _ L (fun l hl => ?_) ?_
  · obtain ⟨r, hr⟩ := List.mem_iff_getElem?.1 hl
    exact ⟨h.nd r l hr, fun x hx => h.lt hr hx⟩
  · rw [List.pairwise_iff_getElem]
    intro i j hi hj hij x hx hx'
    obtain ⟨k, hk⟩ := List.mem_iff_getElem?.1 hx
    obtain ⟨k', hk'⟩ := List.mem_iff_getElem?.1 hx'
    have := (h.one (List.getElem?_eq_getElem hi) hk (List.getElem?_eq_getElem hj) hk').1
    omega
set_option maxHeartbeats 8000000 in
set_option maxRecDepth 100000 in
theorem parts_ok (N : Int) (A : Option Addr) (cap : Nat) (acts : List Act) (w : World) (hN : 0 ≤ N ∧ N < 256) (hC : Act.kd.C w A acts.length acts) (hcap : acts.length ≤ cap) (hmax : cap ≤ maxLen) (hok : ∀ x ∈ acts, x.ok) : Calls Try.prog 7 #[.int .u8 N, .slice A acts.length cap] w fun e w' => e = .returned (.bool true) ∧ Below w.heap.size w w' := by
 unfold maxLen at hmax
 have HC := Aside0.mk hC
 have HOK := Aside0.mk hok
 clear hC hok
 obtain ⟨n, hn⟩ : ∃ n : Nat, 1 + N % 8 = (n : Int) := ⟨(1 + N % 8).toNat, by omega⟩
 have hn1 : 1 ≤ n := by omega
 have hn8 : n ≤ 8 := by omega
 go_enter Try.func7, Try.ntmps7
 go_wp2_with (fail)
 refine (dawake_ok _).mono ?_
 rintro e w2 ⟨rfl, hb2⟩
 have HB := Aside0.mk hb2
 clear hb2
 go_wp2_with (fail)
 refine (dnew_ok n 20 (by omega) (by omega) (by omega) (by omega) _).mono ?_
 rintro e w3 ⟨g, br, bl, rfl, hs, hg, hbr, hbl, hb3⟩
 have HS := Aside0.mk hs
 have H0 := Aside0.mk (DR.new n 20 (by omega))
 have HB3 := Aside0.mk (below_step HB.out hb3)
 have y1 : w.heap.size ≤ br := Nat.le_trans HB.out.size hbr
 have y2 : w.heap.size ≤ bl := Nat.le_trans HB.out.size hbl
 clear hs hb3 HB hg hbr hbl hn
 go_upto_block 0 with (fail)
 go_cut [] from 30 (fun wx => ∃ (d : Dq) (L : List (List Nat)), DqAt wx g br bl d ∧ DR d L ∧ d.links.length = 20 ∧ L.length = n ∧ Below w.heap.size w wx)
 case first =>
  go_wp2_with (fail)
  go_loopw [32] (fun i wr => ∃ (k : Nat) (d : Dq) (L : List (List Nat)), k ≤ acts.length ∧ i = .int .i64 k ∧ DqAt wr g br bl d ∧ DR d L ∧ d.links.length = 20 ∧ L.length = n ∧ Below w.heap.size w wr) (fun i _ => acts.length - (intOf i).toNat)
  case atStart => exact ⟨0, _, _, by omega, rfl, HS.out, H0.out, by simp, by simp, HB3.out⟩
  case round =>
   clear HS H0 HB3
   obtain ⟨k, d, L, hk, rfl, hd, hdr, hdl, hLn, hbk⟩ := hrel
   have HD := Aside0.mk hd
   have HDR := Aside0.mk hdr
   have HDL := Aside0.mk hdl
   have HBK := Aside0.mk hbk
   have HLN := Aside0.mk hLn
   clear hd hdr hdl hbk hLn
   by_cases hlt : k < acts.length
   · have hlt' : (k : Int) < (acts.length : Int) := by omega
     obtain ⟨ad, rfl⟩ : ∃ ad, A = some ad := by
       obtain ⟨ad, h, _⟩ := HC.out.2.2 (by omega)
       exact ⟨ad, h⟩
     obtain ⟨x, hx⟩ : ∃ x, acts[k]? = some x := ⟨_, List.getElem?_eq_getElem hlt⟩
     have hxok := HOK.out x (List.mem_of_getElem? hx)
     obtain ⟨e0, e1, e2⟩ := Act.came (Kd.C_below HC.out HBK.out) hx
     have hdo := wf_u8 hxok.1
     clear hx hxok
     by_cases h60 : k < 60
     · have h60' : (k : Int) < 60 := by omega
       by_cases hdo3 : x.do_ % 5 < 3
       · go_wp2_with (fail)
         refine (push_m x.row x.i g br bl d L _ (HD.out.below (below_alloc (Below.refl _ _) _)) HDR.out).mono ?_
         rintro e w5 ⟨rfl, d5, hd5, hdr5, hl5, hk5⟩
         have HD5 := Aside0.mk hd5
         have HDR5 := Aside0.mk hdr5
         have HL5 := Aside0.mk hl5
         have HB5 := Aside0.mk (kp2_to hk5 (HBK.out.alloc HBK.out.size _) y1 y2 (Nat.le_trans HBK.out.size (by simp)))
         clear hd5 hdr5 hl5 hk5
         go_wp2_with (fail)
         exact ⟨⟨k + 1, d5, _, by omega, by go_num, HD5.out, HDR5.out, HL5.out.trans HDL.out, by rw [DPush_len]; exact HLN.out, HB5.out⟩, by simp [intOf]; omega⟩
       · go_wp2_with (fail)
         refine (remove_m x.i g br bl d L _ (HD.out.below (below_alloc (Below.refl _ _) _)) HDR.out).mono ?_
         rintro e w5 ⟨rfl, d5, hd5, hdr5, hl5, hk5⟩
         have HD5 := Aside0.mk hd5
         have HDR5 := Aside0.mk hdr5
         have HL5 := Aside0.mk hl5
         have HB5 := Aside0.mk (kp2_to hk5 (HBK.out.alloc HBK.out.size _) y1 y2 (Nat.le_trans HBK.out.size (by simp)))
         clear hd5 hdr5 hl5 hk5
         go_wp2_with (fail)
         exact ⟨⟨k + 1, d5, _, by omega, by go_num, HD5.out, HDR5.out, HL5.out.trans HDL.out, by rw [DRemove_len]; exact HLN.out, HB5.out⟩, by simp [intOf]; omega⟩
     · have h60' : ¬ (k : Int) < 60 := by omega
       go_wp2_with (fail)
       go_meet
       case rel => exact ⟨d, L, HD.out.below (below_alloc (Below.refl _ _) _), HDR.out, HDL.out, HLN.out, HBK.out.alloc HBK.out.size _⟩
   · go_wp2_with (fail)
     go_meet
     case rel => exact ⟨d, L, HD.out, HDR.out, HDL.out, HLN.out, HBK.out⟩
 case rest =>
  clear HS H0 HB3
  obtain ⟨d, L, hd, hdr, hdl, hLn, hb⟩ := hcut
  have HD := Aside0.mk hd
  have HDR := Aside0.mk hdr
  have HDL := Aside0.mk hdl
  have HB := Aside0.mk hb
  have HLN := Aside0.mk hLn
  clear hd hdr hdl hb hLn HC HOK
  have hcnt := HDR.out.count
  rw [HDL.out] at hcnt
  have HCNT := Aside0.mk hcnt
  clear hcnt
  go_wp2_with (fail)
  go_loopw [11, 55] (fun s i wr => ∃ (k : Nat), k ≤ n ∧ i = .int .i64 k ∧ s = .int .i64 (((L.take k).map List.length).sum : Nat) ∧ DqAt wr g br bl d ∧ Below w.heap.size w wr) (fun _ i _ => n - (intOf i).toNat)
  case atStart => exact ⟨0, by omega, rfl, rfl, HD.out, HB.out⟩
  case round =>
   clear HD HB
   obtain ⟨k, hk, rfl, rfl, hd, hb⟩ := hrel
   have HD := Aside0.mk hd
   have HB := Aside0.mk hb
   clear hd hb
   by_cases hlt : k < n
   · have hlt' : (k : Int) < (n : Int) := by omega
     obtain ⟨l, hl⟩ : ∃ l, L[k]? = some l := ⟨_, List.getElem?_eq_getElem (by rw [HLN.out]; exact hlt)⟩
     have hlen := HDR.out.len hl
     rw [HDL.out] at hlen
     have hsum : (((L.take (k + 1)).map List.length).sum : Nat) = ((L.take k).map List.length).sum + l.length := by
       rw [List.take_add_one, hl]; simp only [List.map_append, List.sum_append, Option.toList_some, List.map_cons, List.map_nil, List.sum_cons, List.sum_nil]; omega
     have hbd : ((L.take k).map List.length).sum ≤ 20 * k := by
       clear hsum hl hlen l
       have : ∀ j, j ≤ k → ((L.take j).map List.length).sum ≤ 20 * j := by
         intro j
         induction j with
         | zero => simp
         | succ j ih =>
           intro hj
           obtain ⟨l, hl⟩ : ∃ l, L[j]? = some l := ⟨_, List.getElem?_eq_getElem (by rw [HLN.out]; omega)⟩
           have hlen := HDR.out.len hl
           rw [HDL.out] at hlen
           rw [List.take_add_one, hl]
           have := ih (by omega)
           simp only [List.map_append, List.sum_append, Option.toList_some, List.map_cons, List.map_nil, List.sum_cons, List.sum_nil]; omega
       exact this k (Nat.le_refl _)
     obtain ⟨S, hS⟩ : ∃ S : Nat, S = ((L.take k).map List.length).sum := ⟨_, rfl⟩
     rw [← hS] at hsum hbd ⊢
     have hS0 : (S : Int) ≤ 160 := by omega
     have HL := Aside0.mk hl
     have HSUM := Aside0.mk hsum
     clear hl hsum hS
     go_wp2_with (fail)
     refine (dlen_any k g br bl d _ HD.out).mono ?_
     rintro e w' ⟨he, rfl⟩
     rw [HDR.out.lenOf HL.out] at he
     subst he
     go_wp2_with (fail)
     refine (all_any (some ⟨g, 0, none⟩) k false _).mono ?_
     rintro e w6 ⟨b1, b2, b3, rfl, hb6, hB1, hB2, hB3⟩
     have HQ := Aside0.mk (And.intro hB1 (And.intro hB2 hB3))
     have HD6 := Aside0.mk (HD.out.below hb6)
     have HB6 := Aside0.mk (below_step HB.out hb6)
     clear hb6 hB1 hB2 hB3
     go_wp2_with (fail)
     have hsq := HDR.out.seq HL.out false
     refine (collect_row b1 b2 b3 g br bl d k false l (by omega) _ hsq HD6.out HQ.out.1 HQ.out.2.1 HQ.out.2.2).mono ?_
     rintro e w7 ⟨v, rfl, hR, hb7⟩
     clear hsq
     obtain ⟨A7, c7, rfl⟩ := Kd.R_slice hR
     rw [ofN_len]
     have hRd := Kd.R_reads' hR
     have HR := Aside0.mk hRd
     have HD7 := Aside0.mk (HD6.out.below hb7)
     have HB7 := Aside0.mk (below_step HB6.out hb7)
     clear hR hb7 hRd HD HB HD6 HB6 HQ
     go_wp2_with (fail)
     go_loop [68] (fun i => ∃ q : Nat, q ≤ l.length ∧ i = .int .i64 q) (fun i => l.length - (intOf i).toNat)
     case atStart => exact ⟨0, by omega, rfl⟩
     case round =>
      obtain ⟨q, hq, rfl⟩ := hrel
      by_cases hql : q < l.length
      · have hql' : (q : Int) < (l.length : Int) := by omega
        obtain ⟨ad, rfl⟩ : ∃ ad, A7 = some ad := by
          obtain ⟨ad, h, _⟩ := HR.out.2.2.2.2 (by rw [ofN_len]; omega)
          exact ⟨ad, h⟩
        obtain ⟨m, hm⟩ : ∃ m, l[q]? = some m := ⟨_, List.getElem?_eq_getElem hql⟩
        have e0 := int_came HR.out.2.2 (ofN_at hm)
        have hwh := HDR.out.where_in HL.out (List.mem_of_getElem? hm)
        have HWH := Aside0.mk hwh
        clear hwh hm
        go_wp2_with (fail)
        refine (where_any m g br bl d _ HD7.out).mono ?_
        rintro e w' ⟨he, rfl⟩
        rw [HWH.out] at he
        subst he
        go_wp2_with (fail)
        go_round
        case rel => exact ⟨q + 1, by omega, by go_num⟩
        case measure => simp [intOf]; omega
      · go_wp2_with (fail)
        exact ⟨⟨k + 1, by omega, by go_num, by rw [HSUM.out]; go_num, HD7.out, HB7.out⟩, by simp [intOf]; omega⟩
   · obtain rfl : k = n := by omega
     have htk : L.take k = L := List.take_of_length_le (by rw [HLN.out]; exact Nat.le_refl _)
     rw [htk]
     clear htk
     go_wp2_with (fail)
     go_loopw [12, 80] (fun s i wr => ∃ (q : Nat), q ≤ 20 ∧ i = .int .i64 q ∧ s = .int .i64 ((List.range q).countP (isIn L) : Nat) ∧ DqAt wr g br bl d ∧ Below w.heap.size w wr) (fun _ i _ => 20 - (intOf i).toNat)
     case atStart => exact ⟨0, by omega, rfl, rfl, HD.out, HB.out⟩
     case round =>
      clear HD HB
      obtain ⟨q, hq, rfl, rfl, hd, hb⟩ := hrel
      have HD := Aside0.mk hd
      have HB := Aside0.mk hb
      clear hd hb
      have hcb : (List.range q).countP (isIn L) ≤ 20 := by
        have := List.countP_le_length (p := isIn L) (l := List.range q)
        rw [List.length_range] at this; omega
      have hcs : (List.range (q + 1)).countP (isIn L) = (List.range q).countP (isIn L) + if isIn L q = true then 1 else 0 := by
        rw [List.range_succ, List.countP_append, List.countP_singleton]
      by_cases hql : q < 20
      · have hql' : (q : Int) < 20 := by omega
        have hwh := whereOf_m HDR.out q
        cases hro : rowOf L q with
        | none =>
          rw [hro] at hwh
          have hin : isIn L q = false := by
            rw [Bool.eq_false_iff]
            intro h
            obtain ⟨r, l, hl, hm⟩ := isIn_iff.1 h
            have := List.findIdx?_eq_none_iff.1 hro l (List.mem_of_getElem? hl)
            simp [hm] at this
          rw [hin] at hcs
          have HCS := Aside0.mk hcs
          have HWH := Aside0.mk hwh
          clear hcs hin hro hwh
          generalize (List.range q).countP (isIn L) = cc at *
          go_wp2_with (fail)
          refine (where_any q g br bl d _ HD.out).mono ?_
          rintro e w' ⟨he, rfl⟩
          rw [HWH.out] at he
          subst he
          go_wp2_with (fail)
          exact ⟨⟨q + 1, by omega, by go_num, by rw [HCS.out]; go_num, HD.out, HB.out⟩, by simp [intOf]; omega⟩
        | some r =>
          rw [hro] at hwh
          obtain ⟨hr, hm, _⟩ := List.findIdx?_eq_some_iff_getElem.1 hro
          have hl : L[r]? = some L[r] := List.getElem?_eq_getElem hr
          have hmm := of_decide_eq_true hm
          have hin : isIn L q = true := isIn_iff.2 ⟨r, L[r], hl, hmm⟩
          obtain ⟨l, hll⟩ : ∃ l, L[r] = l := ⟨_, rfl⟩
          rw [hll] at hl hmm
          rw [hin] at hcs
          have hlen := HDR.out.len hl
          rw [HDL.out] at hlen
          have HCS := Aside0.mk hcs
          have HWH := Aside0.mk hwh
          have HL := Aside0.mk hl
          have HMM := Aside0.mk hmm
          clear hcs hin hro hwh hm hmm hl hll
          generalize (List.range q).countP (isIn L) = cc at *
          go_wp2_with (fail)
          refine (where_any q g br bl d _ HD.out).mono ?_
          rintro e w' ⟨he, rfl⟩
          rw [HWH.out] at he
          subst he
          go_wp2_with (fail)
          refine (all_any (some ⟨g, 0, none⟩) r true _).mono ?_
          rintro e w6 ⟨b1, b2, b3, rfl, hb6, hB1, hB2, hB3⟩
          have HQ := Aside0.mk (And.intro hB1 (And.intro hB2 hB3))
          have HD6 := Aside0.mk (HD.out.below hb6)
          have HB6 := Aside0.mk (below_step HB.out hb6)
          clear hb6 hB1 hB2 hB3
          go_wp2_with (fail)
          have hsq := HDR.out.seq HL.out true
          refine (collect_row b1 b2 b3 g br bl d r true l.reverse (by simp; omega) _ hsq HD6.out HQ.out.1 HQ.out.2.1 HQ.out.2.2).mono ?_
          rintro e w7 ⟨v, rfl, hR, hb7⟩
          clear hsq
          obtain ⟨A7, c7, rfl⟩ := Kd.R_slice hR
          rw [ofN_len]
          have HR := Aside0.mk hR
          have HD7 := Aside0.mk (HD6.out.below hb7)
          have HB7 := Aside0.mk (below_step HB6.out hb7)
          clear hR hb7 HD HB HD6 HB6 HQ
          go_wp2_with (fail)
          have hcn := contains_n A7 c7 l.reverse q true (by simp [HMM.out]) w7 (by have := HR.out; rw [ofN_len] at this; exact this) (by simp; omega)
          rw [List.length_reverse] at hcn
          refine hcn.mono ?_
          clear hcn
          rintro e w8 ⟨rfl, hb8⟩
          have HD8 := Aside0.mk (HD7.out.below hb8)
          have HB8 := Aside0.mk (below_step HB7.out hb8)
          clear hb8 HD7 HB7 HR
          go_wp2_with (fail)
          exact ⟨⟨q + 1, by omega, by go_num, by rw [HCS.out]; go_num, HD8.out, HB8.out⟩, by simp [intOf]; omega⟩
      · obtain rfl : q = 20 := by omega
        have hc20 := HCNT.out
        have hbq : ((List.range 20).countP (isIn L) : Nat) = ((L.map List.length).sum : Nat) := hc20
        clear hcs hcb hc20
        rw [hbq]
        go_wp2
        go_ret
        exact ⟨rfl, HB.out⟩
theorem parts_law (a0 : Int) (A : Option Addr) (cap : Nat) (l : List Act) (W : World) (w0 : (Lit.int .u8 a0).wf = true) (hC : Act.kd.C W A l.length l) (hcap : l.length ≤ cap) (hmax : cap ≤ maxLen) (hok : ∀ x ∈ l, x.ok) : Calls Try.prog 7 #[.int .u8 a0, .slice A l.length cap] W fun e w' => e = .returned (.bool true) ∧ Below W.heap.size W w' :=
  parts_ok a0 A cap l W (wf_u8 w0) hC hcap hmax hok
end Go.Proofs.Ytofapimappeppaa.Z
