/- A row is a queue, and a stack. -/
import Derived.Test.YtofapimappeppaaDqlaws
namespace Go.Proofs.Ytofapimappeppaa.Z
open Go.RowKit Go.Proofs.YtofapimappeppaaW.PrintWords Go.Proofs.YtofapimappeppaaW.PrintLast Go.Proofs.YtofapimappeppaaW.PrintMore
attribute [local go_sem] max2_int min2_int max_two min_two max_three min_three max_four min_four
set_option linter.unusedVariables false
set_option linter.unusedSimpArgs false
def ofN (l : List Nat) : List Int := l.map fun (x : Nat) => (x : Int)
theorem ofN_len (l : List Nat) : (ofN l).length = l.length := by simp [ofN]
theorem ofN_mem {l : List Nat} {m : Nat} : (m : Int) ∈ ofN l ↔ m ∈ l := by
  simp only [ofN, List.mem_map]
  constructor
  · rintro ⟨x, hx, e⟩
    have : x = m := by omega
    exact this ▸ hx
  · exact fun h => ⟨m, h, rfl⟩
theorem ofN_snoc (l : List Nat) (m : Nat) : ofN (l ++ [m]) = ofN l ++ [(m : Int)] := by simp [ofN]
theorem ofN_at {l : List Nat} {k x : Nat} (h : l[k]? = some x) : (ofN l)[k]? = some (x : Int) := by simp [ofN, h]
theorem three_out {a b c : List Nat} {m : Nat} (h1 : m ∉ a) (h2 : m ∉ b) (h3 : m ∉ c) : ∀ (r' : Nat) l', [a, b, c][r']? = some l' → m ∉ l' := by
  intro r' l' h
  match r', h with
  | 0, h => injection h with h; exact h ▸ h1
  | 1, h => injection h with h; exact h ▸ h2
  | 2, h => injection h with h; exact h ▸ h3
  | r + 3, h => cases h
theorem contains_n (A : Option Addr) (c : Nat) (l : List Nat) (m : Nat) (b : Bool) (hb : b = decide (m ∈ l)) (w : World) {e base : Nat} {ok : Nat → Prop} (hR : (Kd.int .i64).R e w base ok (.slice A l.length c) (ofN l)) (hl : l.length ≤ 1000000) :
  Calls Try.prog 13 #[.slice A l.length c, .int .i64 m] w fun e w' => e = .returned (.bool b) ∧ Below w.heap.size w w' := by
  have h := Kd.R_reads' hR
  have e1 := ofN_len l
  rw [← e1]
  exact contains_b A c (ofN l) m b (by rw [hb, decide_eq_decide]; exact ofN_mem.symm) w h.2.2 (by rw [e1]; exact h.2.1) (by rw [e1]; exact hl)
set_option maxHeartbeats 8000000 in
set_option maxRecDepth 100000 in
theorem queues_ok (A : Option Addr) (cap : Nat) (ms : List Int) (back : Bool) (w : World) (hC : (Kd.int .u8).C w A ms.length ms) (hcap : ms.length ≤ cap) (hmax : cap ≤ maxLen) (hms : ∀ x ∈ ms, 0 ≤ x ∧ x < 256) : Calls Try.prog 4 #[.slice A ms.length cap, .bool back] w fun e w' => e = .returned (.bool true) ∧ Below w.heap.size w w' := by
 unfold maxLen at hmax
 have HC := Aside0.mk hC
 have HMS := Aside0.mk hms
 clear hC hms
 go_enter Try.func4, Try.ntmps4
 go_wp2_with (fail)
 refine (dawake_ok _).mono ?_
 rintro e w2 ⟨rfl, hb2⟩
 have HB := Aside0.mk hb2
 clear hb2
 go_wp2_with (fail)
 refine (dnew_ok 3 256 (by omega) (by omega) (by omega) (by omega) _).mono ?_
 rintro e w3 ⟨g, br, bl, rfl, hs, hg, hbr, hbl, hb3⟩
 have HS := Aside0.mk hs
 have H0 := Aside0.mk (DR.new 3 256 (by omega))
 have HB3 := Aside0.mk (below_step HB.out hb3)
 have y1 : w.heap.size ≤ br := Nat.le_trans HB.out.size hbr
 have y2 : w.heap.size ≤ bl := Nat.le_trans HB.out.size hbl
 clear hs hb3 HB hg hbr hbl
 go_wp2_with (fail)
 refine (push_dr 0 0 g br bl _ _ [] _ HS.out H0.out rfl (by decide) (three_out (by simp) (by simp) (by simp))).mono ?_
 rintro e w4 ⟨rfl, d4, hs4, h4, hl4, hk4⟩
 have h4 : DR d4 [[0], [], []] := h4
 have hl4 : d4.links.length = 256 := by rw [hl4]; rfl
 have HS4 := Aside0.mk hs4
 have H4 := Aside0.mk h4
 have HL4 := Aside0.mk hl4
 have HB4 := Aside0.mk (kp2_to hk4 HB3.out y1 y2 HB3.out.size)
 clear hs4 h4 hl4 hk4 HS H0 HB3
 go_wp2_with (fail)
 go_loopw [7, 28] (fun v i wr => ∃ (k : Nat) (d : Dq) (row : List Nat), k ≤ ms.length ∧ i = .int .i64 k ∧ DqAt wr g br bl d ∧ DR d [[0], row, []] ∧ d.links.length = 256 ∧ 0 ∉ row ∧ (Kd.int .i64).R 3 wr w.heap.size (fun _ => True) v (ofN row) ∧ Below w.heap.size w wr) (fun _ i _ => ms.length - (intOf i).toNat)
 case atStart => exact ⟨0, d4, [], by omega, rfl, HS4.out, H4.out, HL4.out, by simp, Kd.R_nil _ _ _ _ _, HB4.out⟩
 case round =>
  clear HS4 H4 HL4 HB4
  obtain ⟨k, d, row, hk, rfl, hd, hdr, hdl, h0, hR, hbk⟩ := hrel
  have hrl : row.length ≤ 256 := by have := hdr.len (r := 1) rfl; omega
  obtain ⟨A', c', hv⟩ := Kd.R_slice hR
  rw [ofN_len] at hv
  subst hv
  have HD := Aside0.mk hd
  have HDR := Aside0.mk hdr
  have HDL := Aside0.mk hdl
  have HR := Aside0.mk hR
  have HBK := Aside0.mk hbk
  have HZ := Aside0.mk h0
  clear hd hdr hdl hR hbk h0
  by_cases hlt : k < ms.length
  · have hlt' : (k : Int) < (ms.length : Int) := by omega
    obtain ⟨ad, rfl⟩ : ∃ ad, A = some ad := by
      obtain ⟨ad, h, _⟩ := HC.out.2.2 (by omega)
      exact ⟨ad, h⟩
    obtain ⟨x, hx⟩ : ∃ x, ms[k]? = some x := ⟨_, List.getElem?_eq_getElem hlt⟩
    have hx2 := HMS.out x (List.mem_of_getElem? hx)
    obtain ⟨m, rfl⟩ : ∃ m : Nat, x = m := ⟨x.toNat, by omega⟩
    have hm2 : (m : Int) < 256 := hx2.2
    have e0 := int_came (Kd.C_below HC.out HBK.out) hx
    clear hx hx2
    by_cases hm0 : m = 0
    · subst hm0
      go_wp2_with (fail)
      refine (busy_dr 1 0 0 g br bl _ _ [0] _ HD.out HDR.out (by simp) rfl (by simp)).mono ?_
      rintro e w' ⟨rfl, rfl⟩
      go_wp2_with (fail)
      refine (where_any 0 g br bl _ _ HD.out).mono ?_
      rintro e w' ⟨he, rfl⟩
      rw [show d.whereOf 0 = 0 from HDR.out.where_in (r := 0) (i := 0) rfl (by simp)] at he
      subst he
      go_wp2_with (fail)
      exact ⟨⟨k + 1, d, row, by omega, by go_num, HD.out, HDR.out, HDL.out, HZ.out, HR.out, HBK.out⟩, by simp [intOf]; omega⟩
    · have hmz : ((m : Int) != 0) = true := by rw [bne_iff_ne]; omega
      have hm256 : m < 256 := by omega
      by_cases hmr : m ∈ row
      · have HMR := Aside0.mk hmr
        clear hmr hm0
        go_wp2_with (fail)
        refine (busy_dr 1 1 m g br bl _ _ row _ HD.out HDR.out (by simp) rfl HMR.out).mono ?_
        rintro e w' ⟨rfl, rfl⟩
        go_wp2_with (fail)
        refine (contains_n A' c' row m true (decide_eq_true HMR.out).symm _ HR.out (by omega)).mono ?_
        rintro e w5 ⟨rfl, hb5⟩
        have HD5 := Aside0.mk (HD.out.below hb5)
        have HR5 := Aside0.mk (Kd.R_below HR.out hb5)
        have HB5 := Aside0.mk (below_step HBK.out hb5)
        clear hb5 HD HR HBK
        go_wp2_with (fail)
        refine (where_any m g br bl _ _ HD5.out).mono ?_
        rintro e w' ⟨he, rfl⟩
        rw [show d.whereOf m = 1 from HDR.out.where_in (r := 1) (i := m) rfl HMR.out] at he
        subst he
        go_wp2_with (fail)
        refine (contains_n A' c' row m true (decide_eq_true HMR.out).symm _ HR5.out (by omega)).mono ?_
        rintro e w6 ⟨rfl, hb6⟩
        have HD6 := Aside0.mk (HD5.out.below hb6)
        have HR6 := Aside0.mk (Kd.R_below HR5.out hb6)
        have HB6 := Aside0.mk (below_step HB5.out hb6)
        clear hb6 HD5 HR5 HB5
        go_wp2_with (fail)
        exact ⟨⟨k + 1, d, row, by omega, by go_num, HD6.out, HDR.out, HDL.out, HZ.out, HR6.out, HB6.out⟩, by simp [intOf]; omega⟩
      · have HMR := Aside0.mk hmr
        have HM0 := Aside0.mk hm0
        clear hmr hm0
        go_wp2_with (fail)
        refine (push_dr 1 m g br bl _ _ row _ HD.out HDR.out rfl (by rw [HDL.out]; exact hm256) (three_out (by simp; exact HM0.out) HMR.out (by simp))).mono ?_
        rintro e w5 ⟨rfl, d5, hs5, h5, hl5, hk5⟩
        have h5 : DR d5 [[0], row ++ [m], []] := h5
        have HD5 := Aside0.mk hs5
        have HDR5 := Aside0.mk h5
        have HDL5 := Aside0.mk (hl5.trans HDL.out)
        have HR5 := Aside0.mk (DqAt.keepR hk5 HD.out HR.out rfl (by decide) (by decide))
        have HB5 := Aside0.mk (kp2_to hk5 HBK.out y1 y2 HBK.out.size)
        clear hs5 h5 hl5 hk5 HD HR HBK HDR HDL
        go_wp2_with (fail)
        refine (contains_n A' c' row m false (decide_eq_false HMR.out).symm _ HR5.out (by omega)).mono ?_
        rintro e w6 ⟨rfl, hb6⟩
        have HD6 := Aside0.mk (HD5.out.below hb6)
        have HR6 := Aside0.mk (Kd.R_below HR5.out hb6)
        have HB6 := Aside0.mk (below_step HB5.out hb6)
        clear hb6 HD5 HR5 HB5
        go_wp2_with (fail)
        refine (where_any m g br bl _ _ HD6.out).mono ?_
        rintro e w' ⟨he, rfl⟩
        rw [show d5.whereOf m = 1 from HDR5.out.where_in (r := 1) (i := m) rfl (by simp)] at he
        subst he
        go_wp2_with (fail)
        refine (contains_n A' c' row m false (decide_eq_false HMR.out).symm _ HR6.out (by omega)).mono ?_
        rintro e w7 ⟨rfl, hb7⟩
        have HD7 := Aside0.mk (HD6.out.below hb7)
        have HR7 := Aside0.mk (Kd.R_below HR6.out hb7)
        have HB7 := Aside0.mk (below_step HB6.out hb7)
        clear hb7 HD6 HR6 HB6
        go_wp2_with (at_builtin; refine Kd.R_append (Kd.int .i64) (w0 := w) w.heap.size rfl (.tmp 60) (.tmp 63) 34 3 (.int .i64 0) 8 rfl Try.underlying34 (by kernel_rfl) rfl (by decide) (by omega) _ (ofN row) (m : Int) [.int .i64 (m : Int)] (fun _ => True) (fun _ => False) rfl rfl rfl (fun _ hk => hk.elim) (fun _ _ => trivial) HR7.out HB7.out HB7.out.size (by rw [ofN_len]; omega) ?_; intro v8 w8 hR8 hB8 hg8 _; have HD8 := Aside0.mk (DqAt.grown hg8 HD7.out HR7.out (by decide) (by decide) (by decide)); have HR8 := Aside0.mk hR8; have HB8 := Aside0.mk hB8; clear hR8 hB8 hg8)
        exact ⟨⟨k + 1, d5, row ++ [m], by omega, by go_num, HD8.out, HDR5.out, HDL5.out, by simp; exact ⟨HZ.out, fun e => HM0.out e.symm⟩, by rw [ofN_snoc]; exact HR8.out, HB8.out⟩, by simp [intOf]; omega⟩
  · have hltn : (ms.length : Int) ≤ (k : Int) := by omega
    cases back
    case false =>
      have HD2 := HD
      have HR2 := HR
      have HB2 := HBK
      clear HD HR HBK
      go_wp2_with (fail)
      go_loopw [71] (fun i wr => ∃ (q : Nat) (d : Dq), q ≤ row.length ∧ i = .int .i64 q ∧ DqAt wr g br bl d ∧ DR d [[0], row.drop q, []] ∧ (Kd.int .i64).R 3 wr w.heap.size (fun _ => True) (.slice A' row.length c') (ofN row) ∧ Below w.heap.size w wr) (fun i _ => row.length - (intOf i).toNat)
      case atStart => exact ⟨0, d, Nat.zero_le _, rfl, HD2.out, by simpa using HDR.out, HR2.out, HB2.out⟩
      case round =>
       clear HD2 HDR HR2 HB2
       obtain ⟨q, d, hq, rfl, hd, hdr, hR, hbk⟩ := hrel
       have HD := Aside0.mk hd
       have HDR := Aside0.mk hdr
       have HBK := Aside0.mk hbk
       by_cases hql : q < row.length
       · have hql' : (q : Int) < (row.length : Int) := by omega
         obtain ⟨x, hx⟩ : ∃ x, row[q]? = some x := ⟨_, List.getElem?_eq_getElem (by omega)⟩
         obtain ⟨g', cap', hv, _, _, _⟩ := Kd.R_form hR (by simp [ofN_len]; omega)
         injection hv with hv1 hv2 hv3
         subst hv1
         have e0 := R_int_cell hR (i := q) (x := (x : Int)) (by exact ofN_at hx)
         have hcx : (row.drop q)[0]? = some x := by rw [List.getElem?_drop, Nat.add_zero]; exact hx
         have HCX := Aside0.mk hcx
         have hne : row.drop q ≠ [] := fun e => by rw [e] at hcx; simp at hcx
         have HNE := Aside0.mk hne
         have HX := Aside0.mk hx
         have HR := Aside0.mk hR
         clear hd hdr hR hbk hx hv2 hv3 hcx hne
         go_wp2_with (fail)
         refine (front_any 1 g br bl _ _ HD.out).mono ?_
         rintro e w' ⟨he, rfl⟩
         obtain ⟨fx, hfx⟩ : ∃ fx, fx = nth (row.drop q) 0 := ⟨_, rfl⟩
         have hen : d.endOf 1 false = (fx, true) := by rw [hfx]; exact HDR.out.endOf (r := 1) rfl false HNE.out
         have he2 : e = .returned (.tuple #[.int .i64 fx, .bool true]) := by rw [he, hen]
         clear hen
         rw [show nth (row.drop q) 0 = x from nth_some HCX.out] at hfx; subst hfx; clear he
         subst he2
         go_wp2_with (fail)
         refine (remove_dr 1 0 x g br bl _ _ _ _ HD.out HDR.out rfl HCX.out).mono ?_
         rintro e w5 ⟨rfl, d5, hs5, h5, _, hk5⟩
         have h5 : DR d5 [[0], (row.drop q).eraseIdx 0, []] := h5
         have ecur : (row.drop q).eraseIdx 0 = row.drop (q + 1) := by
           rw [List.eraseIdx_zero, List.tail_drop]
         rw [ecur] at h5
         have HD5 := Aside0.mk hs5
         have HDR5 := Aside0.mk h5
         have HR5 := Aside0.mk (DqAt.keepR hk5 HD.out HR.out rfl (by decide) (by decide))
         have HB5 := Aside0.mk (kp2_to hk5 HBK.out y1 y2 HBK.out.size)
         clear hs5 h5 hk5 HD HR HBK HDR ecur
         go_wp2_with (fail)
         exact ⟨⟨q + 1, d5, by omega, by go_num, HD5.out, HDR5.out, HR5.out, HB5.out⟩, by simp [intOf]; omega⟩
       · have hqe : q = row.length := by omega
         have hd0 : DR d [[0], [], []] := by
           have e : row.drop q = [] := by rw [hqe]; simp
           rw [e] at hdr; exact hdr
         have HD0 := Aside0.mk hd0
         have hqq : (row.length : Int) ≤ (q : Int) := by omega
         clear hd hdr hR hbk hd0 hqe
         go_wp2_with (fail)
         refine (front_any 0 g br bl _ _ HD.out).mono ?_
         rintro e w' ⟨he, rfl⟩
         rw [show d.endOf 0 false = (0, true) from HD0.out.endOf (r := 0) rfl false (by simp)] at he
         subst he
         go_wp2_with (fail)
         refine (dlen_any 1 g br bl _ _ HD.out).mono ?_
         rintro e w' ⟨he, rfl⟩
         rw [show d.lenOf 1 = 0 from HD0.out.lenOf (r := 1) rfl] at he
         subst he
         go_wp2_with (fail)
         refine (dlen_any 0 g br bl _ _ HD.out).mono ?_
         rintro e w' ⟨he, rfl⟩
         rw [show d.lenOf 0 = 1 from HD0.out.lenOf (r := 0) rfl] at he
         subst he
         go_wp2
         go_ret
         exact ⟨rfl, HBK.out⟩
    case true =>
      go_wp2_with (fail)
      refine (reverse_any _ (ofN row) w _ HBK.out HR.out (by rw [ofN_len]; omega)).mono ?_
      rintro e w3 ⟨rfl, hR3, hb3, S, hS, hk3⟩
      have HD2 := Aside0.mk (DqAt.kept hk3 hS HD.out HR.out (by decide) (by decide) (by decide))
      have HR2 := Aside0.mk hR3
      have HB2 := Aside0.mk hb3
      clear HD HR HBK hR3 hb3 hk3 hS
      go_wp2_with (fail)
      go_loopw [71] (fun i wr => ∃ (q : Nat) (d : Dq), q ≤ row.length ∧ i = .int .i64 q ∧ DqAt wr g br bl d ∧ DR d [[0], row.take (row.length - q), []] ∧ (Kd.int .i64).R 3 wr w.heap.size (fun _ => True) (.slice A' row.length c') ((ofN row).reverse) ∧ Below w.heap.size w wr) (fun i _ => row.length - (intOf i).toNat)
      case atStart => exact ⟨0, d, Nat.zero_le _, rfl, HD2.out, by simpa using HDR.out, HR2.out, HB2.out⟩
      case round =>
       clear HD2 HDR HR2 HB2
       obtain ⟨q, d, hq, rfl, hd, hdr, hR, hbk⟩ := hrel
       have HD := Aside0.mk hd
       have HDR := Aside0.mk hdr
       have HBK := Aside0.mk hbk
       by_cases hql : q < row.length
       · have hql' : (q : Int) < (row.length : Int) := by omega
         obtain ⟨x, hx⟩ : ∃ x, row[row.length - 1 - q]? = some x := ⟨_, List.getElem?_eq_getElem (by omega)⟩
         obtain ⟨g', cap', hv, _, _, _⟩ := Kd.R_form hR (by simp [ofN_len]; omega)
         injection hv with hv1 hv2 hv3
         subst hv1
         have e0 := R_int_cell hR (i := q) (x := (x : Int)) (by rw [List.getElem?_reverse (by rw [ofN_len]; omega), ofN_len]; exact ofN_at hx)
         have hcx : (row.take (row.length - q))[(row.length - 1 - q)]? = some x := by rw [List.getElem?_take, if_pos (by omega)]; exact hx
         have HCX := Aside0.mk hcx
         have hne : row.take (row.length - q) ≠ [] := fun e => by rw [e] at hcx; simp at hcx
         have HNE := Aside0.mk hne
         have HX := Aside0.mk hx
         have HR := Aside0.mk hR
         clear hd hdr hR hbk hx hv2 hv3 hcx hne
         go_wp2_with (fail)
         refine (front_any 1 g br bl _ _ HD.out).mono ?_
         rintro e w' ⟨he, rfl⟩
         obtain ⟨fx, hfx⟩ : ∃ fx, fx = nth (row.take (row.length - q)) 0 := ⟨_, rfl⟩
         have hen : d.endOf 1 false = (fx, true) := by rw [hfx]; exact HDR.out.endOf (r := 1) rfl false HNE.out
         have he2 : e = .returned (.tuple #[.int .i64 fx, .bool true]) := by rw [he, hen]
         clear hen
         clear hfx he
         subst he2
         go_wp2_with (fail)
         refine (back_any 1 g br bl _ _ HD.out).mono ?_
         rintro e w' ⟨he, rfl⟩
         have hbx : nth (row.take (row.length - q)) (((row.take (row.length - q)).length : Int) - 1) = x := by
           rw [← nth_some HCX.out]
           congr 1
           rw [List.length_take]
           omega
         have hen : d.endOf 1 true = (nth (row.take (row.length - q)) (((row.take (row.length - q)).length : Int) - 1), true) := HDR.out.endOf (r := 1) rfl true HNE.out
         have he2 : e = .returned (.tuple #[.int .i64 x, .bool true]) := by rw [he, hen, hbx]
         clear he hbx hen
         subst he2
         go_wp2_with (fail)
         refine (remove_dr 1 (row.length - 1 - q) x g br bl _ _ _ _ HD.out HDR.out rfl HCX.out).mono ?_
         rintro e w5 ⟨rfl, d5, hs5, h5, _, hk5⟩
         have h5 : DR d5 [[0], (row.take (row.length - q)).eraseIdx (row.length - 1 - q), []] := h5
         have ecur : (row.take (row.length - q)).eraseIdx (row.length - 1 - q) = row.take (row.length - (q + 1)) := by
           apply List.ext_getElem?
           intro j
           rw [List.getElem?_eraseIdx, List.getElem?_take, List.getElem?_take, List.getElem?_take]
           by_cases hj : j < row.length - 1 - q
           · rw [if_pos hj, if_pos (by omega), if_pos (by omega)]
           · rw [if_neg hj, if_neg (by omega), if_neg (by omega)]
         rw [ecur] at h5
         have HD5 := Aside0.mk hs5
         have HDR5 := Aside0.mk h5
         have HR5 := Aside0.mk (DqAt.keepR hk5 HD.out HR.out rfl (by decide) (by decide))
         have HB5 := Aside0.mk (kp2_to hk5 HBK.out y1 y2 HBK.out.size)
         clear hs5 h5 hk5 HD HR HBK HDR ecur
         go_wp2_with (fail)
         exact ⟨⟨q + 1, d5, by omega, by go_num, HD5.out, HDR5.out, HR5.out, HB5.out⟩, by simp [intOf]; omega⟩
       · have hqe : q = row.length := by omega
         have hd0 : DR d [[0], [], []] := by
           have e : row.take (row.length - q) = [] := by rw [hqe]; simp
           rw [e] at hdr; exact hdr
         have HD0 := Aside0.mk hd0
         have hqq : (row.length : Int) ≤ (q : Int) := by omega
         clear hd hdr hR hbk hd0 hqe
         go_wp2_with (fail)
         refine (front_any 0 g br bl _ _ HD.out).mono ?_
         rintro e w' ⟨he, rfl⟩
         rw [show d.endOf 0 false = (0, true) from HD0.out.endOf (r := 0) rfl false (by simp)] at he
         subst he
         go_wp2_with (fail)
         refine (dlen_any 1 g br bl _ _ HD.out).mono ?_
         rintro e w' ⟨he, rfl⟩
         rw [show d.lenOf 1 = 0 from HD0.out.lenOf (r := 1) rfl] at he
         subst he
         go_wp2_with (fail)
         refine (dlen_any 0 g br bl _ _ HD.out).mono ?_
         rintro e w' ⟨he, rfl⟩
         rw [show d.lenOf 0 = 1 from HD0.out.lenOf (r := 0) rfl] at he
         subst he
         go_wp2
         go_ret
         exact ⟨rfl, HBK.out⟩
theorem queues_law (A : Option Addr) (cap : Nat) (l : List Int) (back : Bool) (W : World) (hC : (Kd.int .u8).C W A l.length l) (hcap : l.length ≤ cap) (hmax : cap ≤ maxLen) (hb : l.length * 1 ≤ 140737488351232) (hw : ∀ n ∈ l, (Lit.int .u8 n).wf = true) : Calls Try.prog 4 #[.slice A l.length cap, .bool back] W fun e w' => e = .returned (.bool true) ∧ Below W.heap.size W w' :=
  queues_ok A cap l back W hC hcap hmax (fun x hx => wf_u8 (hw x hx))
end Go.Proofs.Ytofapimappeppaa.Z
