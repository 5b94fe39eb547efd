/- A handle is told once. -/
import Derived.Test.YtjpahepnihbogaaSlabf
import Derived.Test.YtjpahepnihbogaaSlablaws
namespace Go.Proofs.Ytjpahepnihbogaa.Z
open Go.RowKit Go.Proofs.YtjpahepnihbogaaW.PrintWords Go.Proofs.YtjpahepnihbogaaW.PrintLast Go.Proofs.YtjpahepnihbogaaW.PrintMore
attribute [local go_sem] max2_int min2_int max_two min_two max_three min_three max_four min_four
set_option linter.unusedVariables false
set_option linter.unusedSimpArgs false
def yes : DataW Unit := .lit (.bool true)
/-- What holds behind k takings. -/
structure Fp (nn k : Nat) (s : Slb) (ch : List Nat) (told gone : List Int) : Prop where
  wf : Wf s ch k
  cl : s.cells.length = nn
  htold : ∀ h ∈ told, Told s h
  nd : told.Nodup
  cnt : told.length = k
  hgone : ∀ h ∈ gone, h ∈ told ∧ s.at h = none
  len : s.len = told.length - gone.length
  glen : gone.length ≤ k
structure Fr (w : World) (base g gc bm nn k m : Nat) (v : Value) (s : Slb) (ch : List Nat) (told gone : List Int) : Prop where
  slab : SlabAt w g gc s
  p : Fp nn m s ch told gone
  row : (Kd.int .u64).R 31 w base (fun _ => True) v gone
  map : w.ownsMap (H := Unit) Try.prog 31 (plainElem Try.prog 4) bm k (Maps.setOf yes (keysOf told))
theorem Fp.taken {nn k i : Nat} {s : Slb} {ch : List Nat} {told gone : List Int} {c : Cel} (q : Rq) (h : Fp nn k s ch told gone) (hk : k < 4294967295) (hn : s.next ch = some i) (hc : s.cells[i]? = some c) : Fp nn (k + 1) (s.taken i c q ch) (tailOf ch) (told ++ [hand i c]) gone := by
  have hi : i < 1024 := by have := (List.getElem?_eq_some_iff.1 hc).1; have := h.wf.room; omega
  have ht := h.wf.turns c (List.mem_of_getElem? hc)
  refine ⟨h.wf.taken q hn hc, by rw [Slb.taken_cells, List.length_set]; exact h.cl, ?_, ?_, by rw [List.length_append, h.cnt]; rfl, ?_, ?_, by have := h.glen; omega⟩
  · intro x hx
    rcases List.mem_append.1 hx with hx | hx
    · exact (h.htold x hx).taken hc
    · rw [List.mem_singleton] at hx
      rw [hx]
      exact Told.new hc hi ht.1 (by omega)
  · rw [List.nodup_append]
    refine ⟨h.nd, by simp, fun x hx y hy => ?_⟩
    rw [List.mem_singleton] at hy
    rw [hy]
    exact (h.htold x hx).ne hc hi
  · intro x hx
    have := h.hgone x hx
    exact ⟨List.mem_append_left _ this.1, stale_taken (h.htold x this.1) this.2 hc⟩
  · rw [Slb.taken_len, h.len, List.length_append, List.length_singleton]
    omega
theorem Fp.fresh {nn k i : Nat} {s : Slb} {ch : List Nat} {told gone : List Int} {c : Cel} (h : Fp nn k s ch told gone) (hc : s.cells[i]? = some c) : hand i c ∉ told := fun hm => by
  have hi : i < 1024 := by have := (List.getElem?_eq_some_iff.1 hc).1; have := h.wf.room; omega
  exact (h.htold _ hm).ne hc hi rfl
theorem Fp.gone {nn k i : Nat} {s : Slb} {ch : List Nat} {told gone : List Int} {c : Cel} {x : Int} (h : Fp nn k s ch told gone) (hx : x ∈ told) (ha : s.at x = some (i, c)) (hl : gone.length < k) : Fp nn k (s.gone i c) (i :: ch) told (gone ++ [x]) := by
  have hx0 := (h.htold x hx).1
  obtain ⟨hc, ht, _, _⟩ := Slb.at_spec ha hx0
  refine ⟨(h.wf.gone hc ht).1, by show (s.cells.set i _).length = nn; rw [List.length_set]; exact h.cl, fun y hy => (h.htold y hy).gone hc, h.nd, h.cnt, ?_, ?_, by rw [List.length_append]; simp; omega⟩
  · intro y hy
    rcases List.mem_append.1 hy with hy | hy
    · have := h.hgone y hy
      exact ⟨this.1, stale_gone this.2 hc⟩
    · rw [List.mem_singleton] at hy
      rw [hy]
      exact ⟨hx, at_gone_self hx0 ha⟩
  · show s.len - 1 = _
    rw [h.len, List.length_append, List.length_singleton]
    omega
theorem Fp.full {nn k : Nat} {s : Slb} {ch : List Nat} {told gone : List Int} (h : Fp nn k s ch told gone) (hn : s.next ch = none) : s.len = nn := by
  cases ch with
  | cons j l => cases hn
  | nil =>
    have h1 := next_full hn
    have h2 := h.wf.len
    have h3 := h.wf.fresh1
    have h4 := h.cl
    simp at h2
    omega
theorem map_kp {k e bm n : Nat} {D : DataW Unit} {S : List Nat} {w W : World} (h : w.ownsMap Try.prog k (plainElem Try.prog e) bm n D) (hk : Kp S w W) (hn : bm ∉ S) : W.ownsMap Try.prog k (plainElem Try.prog e) bm n D := by
  have hlt := h.lt
  obtain ⟨es, ck, h1, h2⟩ := h
  exact ⟨es, ck, (hk.block bm hlt hn).trans h1, h2⟩
theorem map_grown {k e bm n e' base : Nat} {D : DataW Unit} {ok : Nat → Prop} {w W : World} {v : Value} {xs : List Int} (h : w.ownsMap Try.prog k (plainElem Try.prog e) bm n D) (hR : (Kd.int .u64).R e' w base ok v xs) (hg : w.grownBy W v.ownBlock) : W.ownsMap Try.prog k (plainElem Try.prog e) bm n D :=
  h.kept hg (fun he => by
    obtain ⟨cells, hc⟩ := Kd.R_typed hR bm he.symm
    obtain ⟨es, ck, h1, _⟩ := h
    rw [hc] at h1
    cases h1)
theorem bool_came {w : World} {ad : Addr} {n : Nat} {xs : List Bool} (h : Kd.bool.C w (some ad) n xs) {i : Nat} {x : Bool} (hx : xs[i]? = some x) : w.cell? (ad.add i) = some (.bool x) := by
  have hi : i < xs.length := (List.getElem?_eq_some_iff.1 hx).1
  obtain ⟨hn, _, hc⟩ := h
  obtain ⟨ad', e, hc⟩ := hc (by omega)
  obtain rfl : ad = ad' := by injection e
  obtain ⟨c, hcl, hK, hcc⟩ := hc i x hx
  obtain rfl : c = [.bool x] := hK
  have := hcc 0 _ rfl
  rwa [Nat.add_zero, show Kd.bool.sz = 1 from rfl, Nat.mul_one] at this
set_option maxHeartbeats 8000000 in
set_option maxRecDepth 100000 in
theorem fresh_ok (room : Int) (A : Option Addr) (cap : Nat) (l : List Bool) (w : World) (h0 : 0 ≤ room) (h1 : room < 256) (hC : Kd.bool.C w A l.length l) (hcap : l.length ≤ cap) (hmax : cap ≤ maxLen) : Calls Try.prog 3 #[.int .u8 room, .slice A l.length cap] w fun e w' => e = .returned (.bool true) ∧ Below w.heap.size w w' := by
 unfold maxLen at hmax
 obtain ⟨nn, hnn⟩ : ∃ nn : Nat, nn = (1 + room % 9).toNat := ⟨_, rfl⟩
 have hn1 : 1 ≤ nn := by omega
 have hn2 : nn ≤ 9 := by omega
 have HN := Aside0.mk hnn
 have HC := Aside0.mk hC
 have hroom : 1 + room % 9 = (nn : Int) := by omega
 have hmm := @run_makeMap Try.prog
 clear hC hnn
 go_enter Try.func3, Try.ntmps3
 go_wp2_with (fail)
 refine (awake_ok _).mono ?_
 rintro e w2 ⟨rfl, hb2⟩
 have HB := Aside0.mk hb2
 clear hb2
 go_wp2_with (fail)
 refine (new_ok nn (by omega) (by omega) _).mono ?_
 rintro e w3 ⟨g, gc, rfl, hs, hg, hgc, hb3⟩
 have HS := Aside0.mk hs
 have HB3 := Aside0.mk (below_step HB.out hb3)
 have hle1 : w.heap.size ≤ g := Nat.le_trans HB.out.size hg
 have hle2 : w.heap.size ≤ gc := Nat.le_trans HB.out.size hgc
 clear hs hb3 HB hg hgc
 go_wp2_with (fail)
 obtain ⟨bm, hbm⟩ : ∃ bm, bm = w3.heap.size := ⟨_, rfl⟩
 have HBM := Aside0.mk hbm
 have hbg : bm ∉ [g, gc] := by
   have h1 := HS.out.head.lt
   have h2 := HS.out.body.lt
   simp only [List.mem_cons, List.not_mem_nil, or_false]
   omega
 have HBG := Aside0.mk hbg
 clear hbg
 have hlb : w.heap.size ≤ bm := by rw [hbm]; exact HB3.out.size
 rw [← hbm]
 have hF0 : Fr ((w3.alloc (Obj.map #[] 0)).alloc (Obj.cells #[] 31)) w.heap.size g gc bm nn 0 0 (.slice (some ⟨bm + 1, 0, none⟩) 0 0) ⟨List.replicate nn Cel.nil, -1, 0, 0⟩ [] [] [] := by
   have hk : Kp [] w3 ((w3.alloc (Obj.map #[] 0)).alloc (Obj.cells #[] 31)) := Kp.alloc (Kp.alloc (Kp.refl _ _) _) _
   have hfp : Fp nn 0 ⟨List.replicate nn Cel.nil, -1, 0, 0⟩ [] [] [] := ⟨Wf.new nn (by omega), List.length_replicate, (fun h hm => nomatch hm), List.nodup_nil, rfl, (fun h hm => nomatch hm), rfl, Nat.le_refl _⟩
   refine ⟨HS.out.kp hk (fun hm => nomatch hm) (fun hm => nomatch hm), hfp, ?_, ?_⟩
   · have hb : Blk ((w3.alloc (Obj.map #[] 0)).alloc (Obj.cells #[] 31)) (bm + 1) 31 (flat (fun n => [Value.int .u64 n]) []) := by
       have := Blk.new (w3.alloc (Obj.map #[] 0)) 31 []
       rw [World.size_alloc, ← hbm] at this
       exact this
     exact R_of_blk (f := fun n => [Value.int .u64 n]) (hk := fun _ => rfl) (h1 := fun x u hu => by cases List.mem_singleton.1 hu; rfl) hb (by omega) (by decide)
   · have := World.ownsMap_made w3 Try.prog 31 (plainElem (H := Unit) Try.prog 4)
     rw [← hbm] at this
     exact this.alloc _
 have HF0 := Aside0.mk hF0
 have HB4 := Aside0.mk (below_alloc (below_alloc HB3.out (Obj.map #[] 0)) (Obj.cells #[] 31))
 clear hF0 hbm
 go_loopw [9, 33] (fun v i wr => ∃ (k : Nat) (s : Slb) (ch : List Nat) (told gone : List Int), k ≤ l.length ∧ k ≤ 80 ∧ i = .int .i64 k ∧ Fr wr w.heap.size g gc bm nn k k v s ch told gone ∧ Below w.heap.size w wr) (fun _ i _ => l.length - (intOf i).toNat)
 case atStart => exact ⟨0, _, [], [], [], by omega, by omega, rfl, HF0.out, HB4.out⟩
 case round =>
  clear HF0 HB4
  obtain ⟨k, s, ch, told, gone, hk, hk80, rfl, hF, hbk⟩ := hrel
  have HF := Aside0.mk hF
  have HBK := Aside0.mk hbk
  obtain ⟨A', c', hv⟩ := Kd.R_slice hF.row
  subst hv
  have hgl := hF.p.glen
  clear hF hbk
  by_cases hlt : k < l.length
  · have hlt' : (k : Int) < (l.length : Int) := by omega
    obtain ⟨ad, rfl⟩ : ∃ ad, A = some ad := by
      obtain ⟨ad, h, _⟩ := HC.out.2.2 (by omega)
      exact ⟨ad, h⟩
    obtain ⟨b, hb⟩ : ∃ b, l[k]? = some b := ⟨_, List.getElem?_eq_getElem hlt⟩
    have e0 := bool_came (Kd.C_below HC.out HBK.out) hb
    clear hb
    by_cases hk2 : k < 80
    · have hk2' : (k : Int) < 80 := by omega
      go_wp2_with (fail)
      cases hnx : s.next ch with
      | none =>
        have HNX := Aside0.mk hnx
        clear hnx
        refine (full_wf ⟨k, 0, 0, 0, 0⟩ g gc s ch k _ HF.out.slab HF.out.p.wf HNX.out).mono ?_
        rintro e w5 ⟨rfl, hb5⟩
        have HS5 := Aside0.mk (HF.out.slab.kp (Kp.of_below (S := []) hb5) (by simp) (by simp))
        have HM5 := Aside0.mk (map_kp HF.out.map (Kp.of_below (S := []) hb5) (by simp))
        have HB5 := Aside0.mk (below_step HBK.out hb5)
        have hlm := fun ty => HM5.out.len Try.underlying28 ty
        have hsz : Maps.size (Maps.setOf yes (keysOf told)) = k := by rw [set_size _ _ HF.out.p.nd, HF.out.p.cnt]
        rw [hsz] at hlm
        have hlen := HF.out.p.full HNX.out
        have hgk : (k : Int) - (gone.length : Int) = (nn : Int) := by
          have h2 := HF.out.p.len
          rw [hlen, HF.out.p.cnt] at h2
          exact h2.symm
        clear hb5 hsz
        go_wp2_with (fail)
        refine (len_any g gc s _ HS5.out).mono ?_
        rintro e w' ⟨rfl, rfl⟩
        go_wp2
        go_ret
        exact ⟨rfl, HB5.out⟩
      | some i =>
        obtain ⟨c, hc, hct, hc0, hck⟩ := HF.out.p.wf.some hnx
        have HNX := Aside0.mk hnx
        have HCC := Aside0.mk hc
        clear hnx hc hct
        refine (take_wf ⟨k, 0, 0, 0, 0⟩ g gc i s ch k c _ HF.out.slab HF.out.p.wf (by omega) HNX.out HCC.out).mono ?_
        rintro e w5 ⟨rfl, hs5, hk5⟩
        obtain ⟨h, hh⟩ : ∃ h, h = (c.turns + 1) * 4294967296 + (i : Int) := ⟨_, rfl⟩
        rw [← hh]
        have HH := Aside0.mk hh
        have HP5 := Aside0.mk (HF.out.p.taken ⟨k, 0, 0, 0, 0⟩ (by omega) HNX.out HCC.out)
        have HS5 := Aside0.mk hs5
        have HM5 := Aside0.mk (map_kp HF.out.map hk5 HBG.out)
        have HR5 := Aside0.mk (SlabAt.keepR hk5 HF.out.slab HF.out.row rfl (by decide) (by decide))
        have HB5 := Aside0.mk (kp2_below hk5 HBK.out HBK.out.size hle1 hle2)
        clear hs5 hk5 hh
        have hwf : (Lit.int .u64 h).wf = true := by
          have h2 := HP5.out.htold (hand i c) (by simp)
          rw [HH.out]
          have := h2.1; have := h2.2.1
          unfold hand at *
          simp only [Lit.wf, IntKind.min, IntKind.max, IntKind.signed, IntKind.bits, Bool.and_eq_true, decide_eq_true_eq]
          constructor <;> simp <;> omega
        have HWF := Aside0.mk hwf
        have hkey := Maps.keyOf_int_mk Try.underlying31 hwf
        have HKEY := Aside0.mk hkey
        obtain ⟨v0, ps0, hlook, hv0⟩ := HM5.out.lookup (Maps.int_keyed Try.underlying31) Try.underlying28 (Try.zeroValue4 _) (plainElem_bool Try.underlying4 false) hkey
        have hnot : Maps.has (Maps.setOf yes (keysOf told)) (.int .u64 h) = false := set_has _ _ _ (by rw [HH.out]; exact HF.out.p.fresh HCC.out)
        rw [Maps.atKey_of_not_has hnot] at hv0
        have hv1 : v0 = .bool false := by
          have h3 := Try.underlying4
          unfold plainElem at hv0
          rw [h3] at hv0
          cases v0 <;> simp at hv0
          rw [hv0.1]
        subst hv1
        clear hwf hkey hnot hv0
        cases b
        case false =>
          go_wp2_with (at_mapUpdate; refine wpList_mapUpdate_own (H := Unit) _ rfl _ _ _ 28 rfl 31 4 (Maps.int_keyed Try.underlying31) Try.underlying28 _ bm k _ rfl HM5.out (by unfold maxLen; omega) _ _ _ rfl rfl HKEY.out _ [] (plainElem_bool Try.underlying4 true) ?_; intro w6 hown6 hgr6)
          have hk6 : Kp [] w5 w6 → True := fun _ => trivial
          obtain ⟨es6, ck6, hmb6, _⟩ := HM5.out
          have HM6 := Aside0.mk (show w6.ownsMap (H := Unit) Try.prog 31 (plainElem Try.prog 4) bm (k + 1) (Maps.setOf yes (keysOf (told ++ [hand i c]))) from by
            have e1 : keysOf (told ++ [hand i c]) = keysOf told ++ [.int .u64 h] := by rw [HH.out]; simp [keysOf, hand]
            rw [e1, Maps.setOf_snoc]; exact hown6)
          have HS6 := Aside0.mk (show SlabAt w6 g gc (s.taken i c ⟨k, 0, 0, 0, 0⟩ ch) from ⟨HS5.out.head.mapped hmb6 hgr6, HS5.out.body.mapped hmb6 hgr6, HS5.out.ne⟩)
          have HR6 := Aside0.mk (R_mapped HR5.out hmb6 hgr6)
          have HB6 := Aside0.mk (pw_below_grown HB5.out (some bm) HB5.out.size hgr6 (fun j hj => by injection hj with hj; rw [← hj]; exact hlb))
          clear hown6 hgr6 hmb6 hlook
          have hp6 := HP5.out
          have hat : (s.taken i c ⟨k, 0, 0, 0, 0⟩ ch).at h = some (i, ⟨⟨k, 0, 0, 0, 0⟩, c.turns + 1, true, c.next⟩) := by
            rw [HH.out]; exact at_taken_new HCC.out (by have := (List.getElem?_eq_some_iff.1 HCC.out).1; have := HF.out.p.wf.room; omega)
          have hh0 : 0 ≤ h ∧ h < 18446744073709551616 := by
            have h2 := HP5.out.htold (hand i c) (by simp)
            rw [HH.out]; exact ⟨h2.1, h2.2.1⟩
          obtain ⟨hh0, hh1⟩ := hh0
          have HAT := Aside0.mk hat
          have HGN := Aside0.mk (hp6.gone (x := h) (by rw [HH.out]; simp [hand]) hat (by have := HF.out.p.glen; omega))
          clear hp6 hat
          go_wp2_with (fail)
          refine (free_wf h g gc i _ _ (k + 1) _ _ HS6.out HP5.out.wf (by omega) hh0 hh1 HAT.out).mono ?_
          rintro e w7 ⟨rfl, hs7, hk7⟩
          have HS7 := Aside0.mk hs7
          have HM7 := Aside0.mk (map_kp HM6.out hk7 HBG.out)
          have HR7 := Aside0.mk (SlabAt.keepR hk7 HS6.out HR6.out rfl (by decide) (by decide))
          have HB7 := Aside0.mk (kp2_below hk7 HB6.out HB6.out.size hle1 hle2)
          clear hs7 hk7
          go_wp2_with (fail)
          refine (free_stale h g gc _ _ HS7.out hh0 hh1 (HGN.out.wf.turns32 (by omega)) (at_gone_self hh0 HAT.out)).mono ?_
          rintro e w' ⟨rfl, rfl⟩
          go_wp2_with (at_builtin; refine Kd.R_append (Kd.int .u64) (w0 := w) w.heap.size rfl (.tmp 84) (.tmp 86) 29 31 (.int .u64 0) 8 rfl Try.underlying29 (by kernel_rfl) rfl (by decide) (by omega) _ gone h [.int .u64 h] (fun _ => True) (fun _ => False) rfl rfl rfl (fun _ hk => hk.elim) (fun _ _ => trivial) HR7.out HB7.out HB7.out.size (by omega) ?_; intro v9 w9 hR9 hB9 hg9 _; obtain ⟨GL, hgl2⟩ : ∃ GL, GL = gone.length + 1 := ⟨_, rfl⟩; have hgla : (gone ++ [h]).length = GL := (by simp [hgl2]); have hGL := Aside0.mk hgla; have hGLb : (GL : Int) ≤ 80 := (by rw [hgl2]; omega); obtain ⟨A9, c9, hv⟩ := Kd.R_slice hR9; rw [hgla] at hv; subst hv; have HS9 := Aside0.mk (SlabAt.grown hg9 HS7.out HR7.out (by decide) (by decide)); have HM9 := Aside0.mk (map_grown HM7.out HR7.out hg9); have HR9 := Aside0.mk hR9; have HB9 := Aside0.mk hB9; clear hR9 hB9 hg9 hgla hgl2)
          have HT := Aside0.mk (HGN.out.wf.turns32 (by omega))
          go_wp2_with (fail)
          go_loopw [90] (fun j wr => ∃ q : Nat, q ≤ GL ∧ j = .int .i64 q ∧ Below w9.heap.size w9 wr) (fun j _ => GL - (intOf j).toNat)
          case atStart => exact ⟨0, Nat.zero_le _, rfl, Below.refl _ _⟩
          case round =>
            obtain ⟨q, hq, rfl, hb7⟩ := hrel
            by_cases hql : q < GL
            · have hql' : (q : Int) < (GL : Int) := by omega
              obtain ⟨x, hx⟩ : ∃ x, (gone ++ [h])[q]? = some x := ⟨_, List.getElem?_eq_getElem (by rw [hGL.out]; exact hql)⟩
              have hxm := List.mem_of_getElem? hx
              have hst := HGN.out.hgone x hxm
              have hxt := HGN.out.htold x hst.1
              have hx0 := hxt.1
              have hx1 := hxt.2.1
              obtain ⟨g', cap', hv, _, _, _⟩ := Kd.R_form HR9.out (by rw [hGL.out]; omega)
              injection hv with hv1 hv2 hv3
              subst hv1
              have e1 := R_int_cell (Kd.R_below HR9.out hb7) hx
              have HST := Aside0.mk hst.2
              have HB7 := Aside0.mk hb7
              clear hx hxm hst hxt hv2 hv3 hb7
              go_wp2_with (fail)
              refine (get_stale x g gc _ _ (HS9.out.kp (Kp.of_below (S := []) HB7.out) (by simp) (by simp)) hx0 hx1 HT.out HST.out).mono ?_
              rintro e w8 ⟨rfl, hb8⟩
              have HB8 := Aside0.mk (below_step HB7.out hb8)
              clear hb8
              go_wp2_with (fail)
              exact ⟨⟨q + 1, by omega, by go_num, below_alloc HB8.out _⟩, by simp [intOf]; omega⟩
            · obtain rfl : q = GL := by omega
              have HB7 := Aside0.mk hb7
              clear hb7
              go_wp2_with (fail)
              refine ⟨⟨k + 1, _, _, _, gone ++ [h], by omega, by omega, by go_num, ⟨HS9.out.kp (Kp.of_below (S := []) HB7.out) (fun hm => nomatch hm) (fun hm => nomatch hm), HGN.out, Kd.R_below (by exact HR9.out) HB7.out, map_kp HM9.out (Kp.of_below (S := []) HB7.out) (fun hm => nomatch hm)⟩, below_step HB9.out HB7.out⟩, by simp [intOf]; omega⟩
        case true =>
          go_wp2_with (at_mapUpdate; refine wpList_mapUpdate_own (H := Unit) _ rfl _ _ _ 28 rfl 31 4 (Maps.int_keyed Try.underlying31) Try.underlying28 _ bm k _ rfl HM5.out (by unfold maxLen; omega) _ _ _ rfl rfl HKEY.out _ [] (plainElem_bool Try.underlying4 true) ?_; intro w6 hown6 hgr6)
          have hk6 : Kp [] w5 w6 → True := fun _ => trivial
          obtain ⟨es6, ck6, hmb6, _⟩ := HM5.out
          have HM6 := Aside0.mk (show w6.ownsMap (H := Unit) Try.prog 31 (plainElem Try.prog 4) bm (k + 1) (Maps.setOf yes (keysOf (told ++ [hand i c]))) from by
            have e1 : keysOf (told ++ [hand i c]) = keysOf told ++ [.int .u64 h] := by rw [HH.out]; simp [keysOf, hand]
            rw [e1, Maps.setOf_snoc]; exact hown6)
          have HS6 := Aside0.mk (show SlabAt w6 g gc (s.taken i c ⟨k, 0, 0, 0, 0⟩ ch) from ⟨HS5.out.head.mapped hmb6 hgr6, HS5.out.body.mapped hmb6 hgr6, HS5.out.ne⟩)
          have HR6 := Aside0.mk (R_mapped HR5.out hmb6 hgr6)
          have HB6 := Aside0.mk (pw_below_grown HB5.out (some bm) HB5.out.size hgr6 (fun j hj => by injection hj with hj; rw [← hj]; exact hlb))
          clear hown6 hgr6 hmb6 hlook
          obtain ⟨GL, hgl2⟩ : ∃ GL, GL = gone.length := ⟨_, rfl⟩
          have hGL := Aside0.mk hgl2.symm
          rw [← hgl2]
          have hGLb : (GL : Int) ≤ 80 := by rw [hgl2]; omega
          clear hgl2
          have HT := Aside0.mk (HP5.out.wf.turns32 (by omega))
          go_wp2_with (fail)
          go_loopw [90] (fun j wr => ∃ q : Nat, q ≤ GL ∧ j = .int .i64 q ∧ Below w6.heap.size w6 wr) (fun j _ => GL - (intOf j).toNat)
          case atStart => exact ⟨0, Nat.zero_le _, rfl, Below.refl _ _⟩
          case round =>
            obtain ⟨q, hq, rfl, hb7⟩ := hrel
            by_cases hql : q < GL
            · have hql' : (q : Int) < (GL : Int) := by omega
              obtain ⟨x, hx⟩ : ∃ x, gone[q]? = some x := ⟨_, List.getElem?_eq_getElem (by rw [hGL.out]; exact hql)⟩
              have hxm := List.mem_of_getElem? hx
              have hst := HP5.out.hgone x hxm
              have hxt := HP5.out.htold x hst.1
              have hx0 := hxt.1
              have hx1 := hxt.2.1
              obtain ⟨g', cap', hv, _, _, _⟩ := Kd.R_form HR6.out (by rw [hGL.out]; omega)
              injection hv with hv1 hv2 hv3
              subst hv1
              have e1 := R_int_cell (Kd.R_below HR6.out hb7) hx
              have HST := Aside0.mk hst.2
              have HB7 := Aside0.mk hb7
              clear hx hxm hst hxt hv2 hv3 hb7
              go_wp2_with (fail)
              refine (get_stale x g gc _ _ (HS6.out.kp (Kp.of_below (S := []) HB7.out) (by simp) (by simp)) hx0 hx1 HT.out HST.out).mono ?_
              rintro e w8 ⟨rfl, hb8⟩
              have HB8 := Aside0.mk (below_step HB7.out hb8)
              clear hb8
              go_wp2_with (fail)
              exact ⟨⟨q + 1, by omega, by go_num, below_alloc HB8.out _⟩, by simp [intOf]; omega⟩
            · obtain rfl : q = GL := by omega
              have HB7 := Aside0.mk hb7
              clear hb7
              go_wp2_with (fail)
              refine ⟨⟨k + 1, _, _, _, gone, by omega, by omega, by go_num, ⟨HS6.out.kp (Kp.of_below (S := []) HB7.out) (fun hm => nomatch hm) (fun hm => nomatch hm), HP5.out, Kd.R_below (by have h9 := HR6.out; rw [hGL.out] at h9; exact h9) HB7.out, map_kp HM6.out (Kp.of_below (S := []) HB7.out) (fun hm => nomatch hm)⟩, below_step HB6.out HB7.out⟩, by simp [intOf]; omega⟩
    · have hk2' : 80 ≤ (k : Int) := by omega
      have HS5 := Aside0.mk HF.out.slab
      have hlm := fun ty => HF.out.map.len Try.underlying28 ty
      have hsz : Maps.size (Maps.setOf yes (keysOf told)) = k := by rw [set_size _ _ HF.out.p.nd, HF.out.p.cnt]
      rw [hsz] at hlm
      have hlen : s.len = (k : Int) - (gone.length : Int) := by
        have h2 := HF.out.p.len
        rw [HF.out.p.cnt] at h2
        exact h2
      clear hsz
      have HL := Aside0.mk hlen
      clear hlen
      go_wp2_with (fail)
      refine (len_any g gc s _ HS5.out).mono ?_
      rintro e w' ⟨rfl, rfl⟩
      have hlen := HL.out
      go_wp2
      go_ret
      exact ⟨rfl, HBK.out⟩
  · have hlt' : (l.length : Int) ≤ (k : Int) := by omega
    have hkk : (k : Int) ≤ 80 := by omega
    have HS5 := Aside0.mk HF.out.slab
    have hlm := fun ty => HF.out.map.len Try.underlying28 ty
    have hsz : Maps.size (Maps.setOf yes (keysOf told)) = k := by rw [set_size _ _ HF.out.p.nd, HF.out.p.cnt]
    rw [hsz] at hlm
    have hlen : s.len = (k : Int) - (gone.length : Int) := by
      have h2 := HF.out.p.len
      rw [HF.out.p.cnt] at h2
      exact h2
    clear hsz
    have HL := Aside0.mk hlen
    clear hlen
    go_wp2_with (fail)
    refine (len_any g gc s _ HS5.out).mono ?_
    rintro e w' ⟨rfl, rfl⟩
    have hlen := HL.out
    go_wp2
    go_ret
    exact ⟨rfl, HBK.out⟩
theorem wf_u8 {h : Int} (w : (Lit.int .u8 h).wf = true) : 0 ≤ h ∧ h < 256 := by
  have h1 : decide (0 ≤ h) = true ∧ decide (h ≤ 255) = true := by simpa [Lit.wf, IntKind.min, IntKind.max, IntKind.signed, IntKind.bits] using w
  exact ⟨of_decide_eq_true h1.1, by have := of_decide_eq_true h1.2; omega⟩
theorem fresh_law (room : Int) (A : Option Addr) (cap : Nat) (l : List Bool) (W : World) (w0 : (Lit.int .u8 room).wf = true) (hC : Kd.bool.C W A l.length l) (hcap : l.length ≤ cap) (hmax : cap ≤ maxLen) : Calls Try.prog 3 #[.int .u8 room, .slice A l.length cap] W fun e w' => e = .returned (.bool true) ∧ Below W.heap.size W w' :=
  fresh_ok room A cap l W (wf_u8 w0).1 (wf_u8 w0).2 hC hcap hmax
end Go.Proofs.Ytjpahepnihbogaa.Z
