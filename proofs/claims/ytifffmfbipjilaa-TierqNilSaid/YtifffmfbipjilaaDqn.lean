/- New: rows that are empty. -/
import Derived.Test.YtifffmfbipjilaaDqo
import Derived.RegionTactic
import Derived.ChangeAlike
namespace Go.Proofs.Ytifffmfbipjilaa.Z
open Go.RowKit Go.Proofs.YtifffmfbipjilaaW.PrintWords Go.Proofs.YtifffmfbipjilaaW.PrintLast Go.Proofs.YtifffmfbipjilaaW.PrintMore
attribute [local go_sem] max2_int min2_int max_two min_two max_three min_three max_four min_four
set_option linter.unusedVariables false
set_option linter.unusedSimpArgs false
/-- A slice that is made, in any world. -/
theorem made_run {P : Program} (t e : TypeId) (i : TypeInfo) (z : Value) (ht : P.underlying t = some (.slice e)) (hi : P.info? e = some i) (hz : i.zero = some z) (n : Int) (h0 : 0 ≤ n) (hb : (i.bytes : Int) * n ≤ 281474976710656) (h63 : n ≤ 9223372036854775807) :
    ∀ W : World, (Instr.makeSlice t (.int .i64 n) (.int .i64 n)).run P W = .ok (.slice (some ⟨W.heap.size, 0, none⟩) n.toNat n.toNat) (W.alloc (.cells (madeCells z.cells (n.toNat * i.size)) e)) := fun W =>
  run_make (P := P) W t e i z ht hi hz .i64 .i64 n n h0 (Int.le_refl _) hb h63
/-- A slab's cell of zeros | of a new row. -/
def Rw.zero : Rw := ⟨0, 0, 0⟩
def Rw.nil : Rw := ⟨-1, -1, 0⟩
def Lk.zero : Lk := ⟨0, 0, 0⟩
def Lk.nil : Lk := ⟨-1, 0, 0⟩
theorem set_filled {α : Type} (a b : α) (n k : Nat) (h : k < n) : (List.replicate k a ++ List.replicate (n - k) b).set k a = List.replicate (k + 1) a ++ List.replicate (n - (k + 1)) b := by
  rw [List.set_append, if_neg (by simp)]
  have h1 : k - (List.replicate k a).length = 0 := by simp
  have h2 : n - k = (n - (k + 1)) + 1 := by omega
  rw [h1, h2, List.replicate_succ, List.set_cons_zero, List.replicate_succ', List.append_assoc]
  rfl
theorem filled_at {α : Type} (a b : α) (n k : Nat) (h : k < n) : (List.replicate k a ++ List.replicate (n - k) b)[k]? = some b := by
  rw [List.getElem?_append_right (by simp)]
  simp [List.getElem?_replicate]; omega
set_option maxHeartbeats 8000000 in
set_option maxRecDepth 100000 in
theorem dnew_ok (n m : Nat) (h1 : 1 ≤ n) (h2 : n ≤ 8) (h3 : 1 ≤ m) (h4 : m ≤ 1024) (w : World) : Calls Try.prog 28 #[.int .i64 n, .int .i64 m] w fun e w' => ∃ g br bl, e = .returned (.tuple #[.pointer (some ⟨g, 0, none⟩), .int .i64 0]) ∧ DqAt w' g br bl ⟨List.replicate n Rw.nil, List.replicate m Lk.nil⟩ ∧ w.heap.size ≤ g ∧ w.heap.size ≤ br ∧ w.heap.size ≤ bl ∧ Below w.heap.size w w' := by
 have k1 : (1 : Int) ≤ (n : Int) := by omega
 have k2 : (n : Int) ≤ 8 := by omega
 have k3 : (1 : Int) ≤ (m : Int) := by omega
 have k4 : (m : Int) ≤ 1024 := by omega
 have hi : (Try.prog.info? 111).map (fun i => (i.zero, i.size, i.bytes)) = some (some (.agg #[.int .i64 0, .int .i64 0, .int .i64 0]), 3, 24) := by kernel_rfl
 obtain ⟨i, hi, he⟩ := Option.map_eq_some_iff.1 hi
 simp only [Prod.mk.injEq] at he
 obtain ⟨hz, hsz, hby⟩ := he
 have hj : (Try.prog.info? 113).map (fun i => (i.zero, i.size, i.bytes)) = some (some (.agg #[.int .i64 0, .int .i64 0, .int .i64 0]), 3, 24) := by kernel_rfl
 obtain ⟨j, hj, he⟩ := Option.map_eq_some_iff.1 hj
 simp only [Prod.mk.injEq] at he
 obtain ⟨hz2, hsz2, hby2⟩ := he
 have k0 : (0 : Int) ≤ (n : Int) := by omega
 have k5 : (n : Int) ≤ 9223372036854775807 := by omega
 have k6 : (0 : Int) ≤ (m : Int) := by omega
 have k7 : (m : Int) ≤ 9223372036854775807 := by omega
 have hbb : (i.bytes : Int) * (n : Int) ≤ 281474976710656 := by rw [hby]; omega
 have hbb2 : (j.bytes : Int) * (m : Int) ≤ 281474976710656 := by rw [hby2]; omega
 have mk1 := made_run (P := Try.prog) 106 111 i _ Try.underlying106 hi hz (n : Int) k0 hbb k5
 have mk2 := made_run (P := Try.prog) 107 113 j _ Try.underlying107 hj hz2 (m : Int) k6 hbb2 k7
 rw [hsz] at mk1
 rw [hsz2] at mk2
 obtain ⟨M1, hM1⟩ : ∃ M, M = madeCells (Value.cells (.agg #[.int .i64 0, .int .i64 0, .int .i64 0])) ((n : Int).toNat * 3) := ⟨_, rfl⟩
 obtain ⟨M2, hM2⟩ : ∃ M, M = madeCells (Value.cells (.agg #[.int .i64 0, .int .i64 0, .int .i64 0])) ((m : Int).toNat * 3) := ⟨_, rfl⟩
 rw [← hM1] at mk1
 rw [← hM2] at mk2
 have e1 : M1.toList = flat Rw.enc (List.replicate n Rw.zero) := by rw [hM1]; exact made_flat (k := 3) Rw.enc (by omega) _ Rw.zero rfl rfl n
 have e2 : M2.toList = flat Lk.enc (List.replicate m Lk.zero) := by rw [hM2]; exact made_flat (k := 3) Lk.enc (by omega) _ Lk.zero rfl rfl m
 have E1 := Aside0.mk e1
 have E2 := Aside0.mk e2
 have t1 : (n : Int).toNat = n := Int.toNat_natCast n
 have t2 : (m : Int).toNat = m := Int.toNat_natCast m
 rw [t1] at mk1
 rw [t2] at mk2
 clear hbb hbb2 k0 k5 k6 k7 hi hj hz hz2 hsz hsz2 hby hby2 hM1 hM2 e1 e2 t1 t2
 have d1 : decide ((n : Int) < 1) = false := decide_eq_false (by omega)
 have d2 : decide (8 < (n : Int)) = false := decide_eq_false (by omega)
 have d3 : decide ((m : Int) < 1) = false := decide_eq_false (by omega)
 have d4 : decide (1024 < (m : Int)) = false := decide_eq_false (by omega)
 go_enter Try.func28, Try.ntmps28
 go_wp2
 go_region
 · obtain ⟨br, hbr⟩ : ∃ br, br = w.heap.size := ⟨_, rfl⟩
   obtain ⟨bl, hbl⟩ : ∃ bl, bl = w.heap.size + 1 := ⟨_, rfl⟩
   obtain ⟨g, hg⟩ : ∃ g, g = w.heap.size + 1 + 1 := ⟨_, rfl⟩
   rw [← hg, ← hbl, ← hbr]
   generalize hw : World.drew _ = w2
   have x1 : Blk (w.alloc (Obj.cells M1 111)) w.heap.size 111 (flat Rw.enc (List.replicate n Rw.zero)) := by
     have := Blk.new w 111 M1.toList
     rw [E1.out] at this
     simpa [← E1.out] using this
   have x2 : Blk ((w.alloc (Obj.cells M1 111)).alloc (Obj.cells M2 113)) (w.heap.size + 1) 113 (flat Lk.enc (List.replicate m Lk.zero)) := by
     have := Blk.new (w.alloc (Obj.cells M1 111)) 113 M2.toList
     rw [E2.out, World.size_alloc] at this
     simpa [← E2.out] using this
   have x3 := Blk.new ((w.alloc (Obj.cells M1 111)).alloc (Obj.cells M2 113)) 109 [.slice (some ⟨br, 0, none⟩) n n, .slice (some ⟨bl, 0, none⟩) m m]
   rw [World.size_alloc, World.size_alloc, ← hg] at x3
   have HD0 : DqAt w2 g br bl ⟨List.replicate n Rw.zero, List.replicate m Lk.zero⟩ := by
     rw [← hw]
     refine ⟨?_, ?_, ?_, by omega, by omega, by omega⟩
     · simp only [List.length_replicate]; exact x3
     · rw [hbr]; exact (x1.alloc _).alloc _
     · rw [hbl]; exact x2.alloc _
   have HB0 : Below w.heap.size w w2 := by
     rw [← hw]
     exact below_drew (below_alloc (below_alloc (below_alloc (Below.refl _ _) _) _) _)
   have y1 : w.heap.size ≤ g := by omega
   have y2 : w.heap.size ≤ br := by omega
   have y3 : w.heap.size ≤ bl := by omega
   clear hw hg hbr hbl x1 x2 x3 mk1 mk2 d1 d2 d3 d4
   have n1 := HD0.ne1
   have n2 := HD0.ne2
   have n3 := HD0.ne3
   obtain ⟨h0, h1', _, _⟩ := HD0.heads
   simp only [List.length_replicate] at h0 h1'
   have HD := Aside0.mk HD0
   have HB := Aside0.mk HB0
   clear HD0 HB0
   go_wp2
   clear h0 h1'
   go_loopw [34] (fun i wr => ∃ k : Nat, k ≤ n ∧ i = .int .i64 k ∧ DqAt wr g br bl ⟨List.replicate k Rw.nil ++ List.replicate (n - k) Rw.zero, List.replicate m Lk.zero⟩ ∧ Kp [br, bl] w2 wr) (fun i _ => n - (intOf i).toNat)
   case atStart => exact ⟨0, Nat.zero_le _, rfl, HD.out, Kp.refl _ _⟩
   case round =>
     obtain ⟨k, hk, rfl, hd, hkp⟩ := hrel
     have hl : (List.replicate k Rw.nil ++ List.replicate (n - k) Rw.zero).length = n := by simp; omega
     obtain ⟨h0, h1', f1, f2⟩ := hd.heads
     simp only [hl, List.length_replicate] at h0 h1'
     by_cases hlt : k < n
     · have hlt' : (k : Int) < (n : Int) := by omega
       have hx := filled_at Rw.nil Rw.zero n k hlt
       obtain ⟨b0, b1, b2⟩ := hd.row hx
       have HDK := Aside0.mk hd
       have HKP := Aside0.mk hkp
       have HX := Aside0.mk hx
       clear hd hkp hx hl
       go_wp2
       refine ⟨⟨k + 1, by omega, by go_num, ⟨?_, ?_, ?_, n1, n2, n3⟩, ?_⟩, by simp [intOf]; omega⟩
       · apply Blk.done
         case h => (repeat (first | (with_reducible apply Blk.far_; (· (dsimp only; omega))) | with_reducible apply Blk.put_ | with_reducible apply Blk.drew_ | with_reducible apply Blk.drewN_)); exact HDK.out.head
         case e => simp only [List.length_append, List.length_replicate]; rw [show k + (n - k) = k + 1 + (n - (k + 1)) from by omega]
       · show Blk _ _ _ (flat Rw.enc (List.replicate (k + 1) Rw.nil ++ List.replicate (n - (k + 1)) Rw.zero))
         rw [← set_filled Rw.nil Rw.zero n k hlt]
         apply Mid.done
         case h => (repeat (first | (with_reducible apply Mid.far; (· (dsimp only; omega))) | (with_reducible apply Mid.set; (· omega)) | (with_reducible apply Mid.set0; (· omega)) | with_reducible apply Mid.drew_ | with_reducible apply Mid.drewN_)); exact Mid.start Rw.enc_len HDK.out.rows HX.out
         case hx => rfl
       · repeat (first | (with_reducible apply Blk.far_; (· (dsimp only; omega))) | with_reducible apply Blk.put_ | with_reducible apply Blk.drew_ | with_reducible apply Blk.drewN_)
         exact HDK.out.links
       · repeat (first | (with_reducible apply Kp.set_; (· exact .inl (by simp))) | with_reducible apply Kp.drew_ | with_reducible apply Kp.drewN_)
         exact HKP.out
     · obtain rfl : k = n := by omega
       have hd2 : DqAt wr g br bl ⟨List.replicate k Rw.nil, List.replicate m Lk.zero⟩ := by simpa using hd
       have HDK := Aside0.mk hd2
       have HKP := Aside0.mk hkp
       clear hd hd2 hkp hl
       go_wp2
       clear h0 h1' f1 f2
       go_loopw [50] (fun i wr => ∃ q : Nat, q ≤ m ∧ i = .int .i64 q ∧ DqAt wr g br bl ⟨List.replicate k Rw.nil, List.replicate q Lk.nil ++ List.replicate (m - q) Lk.zero⟩ ∧ Kp [br, bl] w2 wr) (fun i _ => m - (intOf i).toNat)
       case atStart => exact ⟨0, Nat.zero_le _, rfl, HDK.out, HKP.out⟩
       case round =>
         clear HDK HKP
         obtain ⟨q, hq, rfl, hd, hkp⟩ := hrel
         have hl : (List.replicate q Lk.nil ++ List.replicate (m - q) Lk.zero).length = m := by simp; omega
         obtain ⟨h0, h1', f1, f2⟩ := hd.heads
         simp only [hl, List.length_replicate] at h0 h1'
         by_cases hlt : q < m
         · have hlt' : (q : Int) < (m : Int) := by omega
           have hx := filled_at Lk.nil Lk.zero m q hlt
           obtain ⟨b0, b1, b2⟩ := hd.link hx
           have HDK := Aside0.mk hd
           have HKP := Aside0.mk hkp
           have HX := Aside0.mk hx
           clear hd hkp hx hl
           go_wp2
           refine ⟨⟨q + 1, by omega, by go_num, ⟨?_, ?_, ?_, n1, n2, n3⟩, ?_⟩, by simp [intOf]; omega⟩
           · apply Blk.done
             case h => (repeat (first | (with_reducible apply Blk.far_; (· (dsimp only; omega))) | with_reducible apply Blk.put_ | with_reducible apply Blk.drew_ | with_reducible apply Blk.drewN_)); exact HDK.out.head
             case e => simp only [List.length_append, List.length_replicate]; rw [show q + (m - q) = q + 1 + (m - (q + 1)) from by omega]
           · repeat (first | (with_reducible apply Blk.far_; (· (dsimp only; omega))) | with_reducible apply Blk.put_ | with_reducible apply Blk.drew_ | with_reducible apply Blk.drewN_)
             exact HDK.out.rows
           · show Blk _ _ _ (flat Lk.enc (List.replicate (q + 1) Lk.nil ++ List.replicate (m - (q + 1)) Lk.zero))
             rw [← set_filled Lk.nil Lk.zero m q hlt]
             apply Mid.done
             case h => (repeat (first | (with_reducible apply Mid.far; (· (dsimp only; omega))) | (with_reducible apply Mid.set; (· omega)) | (with_reducible apply Mid.set0; (· omega)) | with_reducible apply Mid.drew_ | with_reducible apply Mid.drewN_)); exact Mid.start Lk.enc_len HDK.out.links HX.out
             case hx => rfl
           · repeat (first | (with_reducible apply Kp.set_; (· exact .inl (by simp))) | with_reducible apply Kp.drew_ | with_reducible apply Kp.drewN_)
             exact HKP.out
         · obtain rfl : q = m := by omega
           have hd2 : DqAt wr g br bl ⟨List.replicate k Rw.nil, List.replicate q Lk.nil⟩ := by simpa using hd
           have HDK := Aside0.mk hd2
           have HKP := Aside0.mk hkp
           clear hd hd2 hkp hl
           go_wp2
           refine bodyPost_ret (results_tmp2 rfl _ _ _) rfl ?_
           exact ⟨g, br, bl, rfl, HDK.out, y1, y2, y3, Kp.to_below HB.out HB.out.size HKP.out (by simp only [List.mem_cons, List.not_mem_nil, or_false]; rintro b (rfl | rfl) <;> omega)⟩
 · obtain ⟨br, hbr⟩ : ∃ br, br = w.heap.size + 1 := ⟨_, rfl⟩
   obtain ⟨bl, hbl⟩ : ∃ bl, bl = w.heap.size := ⟨_, rfl⟩
   obtain ⟨g, hg⟩ : ∃ g, g = w.heap.size + 1 + 1 := ⟨_, rfl⟩
   rw [← hg, ← hbr, ← hbl]
   generalize hw : World.drew _ = w2
   have x1 : Blk (w.alloc (Obj.cells M2 113)) w.heap.size 113 (flat Lk.enc (List.replicate m Lk.zero)) := by
     have := Blk.new w 113 M2.toList
     rw [E2.out] at this
     simpa [← E2.out] using this
   have x2 : Blk ((w.alloc (Obj.cells M2 113)).alloc (Obj.cells M1 111)) (w.heap.size + 1) 111 (flat Rw.enc (List.replicate n Rw.zero)) := by
     have := Blk.new (w.alloc (Obj.cells M2 113)) 111 M1.toList
     rw [E1.out, World.size_alloc] at this
     simpa [← E1.out] using this
   have x3 := Blk.new ((w.alloc (Obj.cells M2 113)).alloc (Obj.cells M1 111)) 109 [.slice (some ⟨br, 0, none⟩) n n, .slice (some ⟨bl, 0, none⟩) m m]
   rw [World.size_alloc, World.size_alloc, ← hg] at x3
   have HD0 : DqAt w2 g br bl ⟨List.replicate n Rw.zero, List.replicate m Lk.zero⟩ := by
     rw [← hw]
     refine ⟨?_, ?_, ?_, by omega, by omega, by omega⟩
     · simp only [List.length_replicate]; exact x3
     · rw [hbr]; exact x2.alloc _
     · rw [hbl]; exact (x1.alloc _).alloc _
   have HB0 : Below w.heap.size w w2 := by
     rw [← hw]
     exact below_drew (below_alloc (below_alloc (below_alloc (Below.refl _ _) _) _) _)
   have y1 : w.heap.size ≤ g := by omega
   have y2 : w.heap.size ≤ br := by omega
   have y3 : w.heap.size ≤ bl := by omega
   clear hw hg hbr hbl x1 x2 x3 mk1 mk2 d1 d2 d3 d4
   have n1 := HD0.ne1
   have n2 := HD0.ne2
   have n3 := HD0.ne3
   obtain ⟨h0, h1', _, _⟩ := HD0.heads
   simp only [List.length_replicate] at h0 h1'
   have HD := Aside0.mk HD0
   have HB := Aside0.mk HB0
   clear HD0 HB0
   go_wp2
   clear h0 h1'
   go_loopw [34] (fun i wr => ∃ k : Nat, k ≤ n ∧ i = .int .i64 k ∧ DqAt wr g br bl ⟨List.replicate k Rw.nil ++ List.replicate (n - k) Rw.zero, List.replicate m Lk.zero⟩ ∧ Kp [br, bl] w2 wr) (fun i _ => n - (intOf i).toNat)
   case atStart => exact ⟨0, Nat.zero_le _, rfl, HD.out, Kp.refl _ _⟩
   case round =>
     obtain ⟨k, hk, rfl, hd, hkp⟩ := hrel
     have hl : (List.replicate k Rw.nil ++ List.replicate (n - k) Rw.zero).length = n := by simp; omega
     obtain ⟨h0, h1', f1, f2⟩ := hd.heads
     simp only [hl, List.length_replicate] at h0 h1'
     by_cases hlt : k < n
     · have hlt' : (k : Int) < (n : Int) := by omega
       have hx := filled_at Rw.nil Rw.zero n k hlt
       obtain ⟨b0, b1, b2⟩ := hd.row hx
       have HDK := Aside0.mk hd
       have HKP := Aside0.mk hkp
       have HX := Aside0.mk hx
       clear hd hkp hx hl
       go_wp2
       refine ⟨⟨k + 1, by omega, by go_num, ⟨?_, ?_, ?_, n1, n2, n3⟩, ?_⟩, by simp [intOf]; omega⟩
       · apply Blk.done
         case h => (repeat (first | (with_reducible apply Blk.far_; (· (dsimp only; omega))) | with_reducible apply Blk.put_ | with_reducible apply Blk.drew_ | with_reducible apply Blk.drewN_)); exact HDK.out.head
         case e => simp only [List.length_append, List.length_replicate]; rw [show k + (n - k) = k + 1 + (n - (k + 1)) from by omega]
       · show Blk _ _ _ (flat Rw.enc (List.replicate (k + 1) Rw.nil ++ List.replicate (n - (k + 1)) Rw.zero))
         rw [← set_filled Rw.nil Rw.zero n k hlt]
         apply Mid.done
         case h => (repeat (first | (with_reducible apply Mid.far; (· (dsimp only; omega))) | (with_reducible apply Mid.set; (· omega)) | (with_reducible apply Mid.set0; (· omega)) | with_reducible apply Mid.drew_ | with_reducible apply Mid.drewN_)); exact Mid.start Rw.enc_len HDK.out.rows HX.out
         case hx => rfl
       · repeat (first | (with_reducible apply Blk.far_; (· (dsimp only; omega))) | with_reducible apply Blk.put_ | with_reducible apply Blk.drew_ | with_reducible apply Blk.drewN_)
         exact HDK.out.links
       · repeat (first | (with_reducible apply Kp.set_; (· exact .inl (by simp))) | with_reducible apply Kp.drew_ | with_reducible apply Kp.drewN_)
         exact HKP.out
     · obtain rfl : k = n := by omega
       have hd2 : DqAt wr g br bl ⟨List.replicate k Rw.nil, List.replicate m Lk.zero⟩ := by simpa using hd
       have HDK := Aside0.mk hd2
       have HKP := Aside0.mk hkp
       clear hd hd2 hkp hl
       go_wp2
       clear h0 h1' f1 f2
       go_loopw [50] (fun i wr => ∃ q : Nat, q ≤ m ∧ i = .int .i64 q ∧ DqAt wr g br bl ⟨List.replicate k Rw.nil, List.replicate q Lk.nil ++ List.replicate (m - q) Lk.zero⟩ ∧ Kp [br, bl] w2 wr) (fun i _ => m - (intOf i).toNat)
       case atStart => exact ⟨0, Nat.zero_le _, rfl, HDK.out, HKP.out⟩
       case round =>
         clear HDK HKP
         obtain ⟨q, hq, rfl, hd, hkp⟩ := hrel
         have hl : (List.replicate q Lk.nil ++ List.replicate (m - q) Lk.zero).length = m := by simp; omega
         obtain ⟨h0, h1', f1, f2⟩ := hd.heads
         simp only [hl, List.length_replicate] at h0 h1'
         by_cases hlt : q < m
         · have hlt' : (q : Int) < (m : Int) := by omega
           have hx := filled_at Lk.nil Lk.zero m q hlt
           obtain ⟨b0, b1, b2⟩ := hd.link hx
           have HDK := Aside0.mk hd
           have HKP := Aside0.mk hkp
           have HX := Aside0.mk hx
           clear hd hkp hx hl
           go_wp2
           refine ⟨⟨q + 1, by omega, by go_num, ⟨?_, ?_, ?_, n1, n2, n3⟩, ?_⟩, by simp [intOf]; omega⟩
           · apply Blk.done
             case h => (repeat (first | (with_reducible apply Blk.far_; (· (dsimp only; omega))) | with_reducible apply Blk.put_ | with_reducible apply Blk.drew_ | with_reducible apply Blk.drewN_)); exact HDK.out.head
             case e => simp only [List.length_append, List.length_replicate]; rw [show q + (m - q) = q + 1 + (m - (q + 1)) from by omega]
           · repeat (first | (with_reducible apply Blk.far_; (· (dsimp only; omega))) | with_reducible apply Blk.put_ | with_reducible apply Blk.drew_ | with_reducible apply Blk.drewN_)
             exact HDK.out.rows
           · show Blk _ _ _ (flat Lk.enc (List.replicate (q + 1) Lk.nil ++ List.replicate (m - (q + 1)) Lk.zero))
             rw [← set_filled Lk.nil Lk.zero m q hlt]
             apply Mid.done
             case h => (repeat (first | (with_reducible apply Mid.far; (· (dsimp only; omega))) | (with_reducible apply Mid.set; (· omega)) | (with_reducible apply Mid.set0; (· omega)) | with_reducible apply Mid.drew_ | with_reducible apply Mid.drewN_)); exact Mid.start Lk.enc_len HDK.out.links HX.out
             case hx => rfl
           · repeat (first | (with_reducible apply Kp.set_; (· exact .inl (by simp))) | with_reducible apply Kp.drew_ | with_reducible apply Kp.drewN_)
             exact HKP.out
         · obtain rfl : q = m := by omega
           have hd2 : DqAt wr g br bl ⟨List.replicate k Rw.nil, List.replicate q Lk.nil⟩ := by simpa using hd
           have HDK := Aside0.mk hd2
           have HKP := Aside0.mk hkp
           clear hd hd2 hkp hl
           go_wp2
           refine bodyPost_ret (results_tmp2 rfl _ _ _) rfl ?_
           exact ⟨g, br, bl, rfl, HDK.out, y1, y2, y3, Kp.to_below HB.out HB.out.size HKP.out (by simp only [List.mem_cons, List.not_mem_nil, or_false]; rintro b (rfl | rfl) <;> omega)⟩
set_option maxHeartbeats 8000000 in
theorem dnew_bad (n m : Int) (h : ¬ (1 ≤ n ∧ n ≤ 8 ∧ 1 ≤ m ∧ m ≤ 1024)) (w : World) : Calls Try.prog 28 #[.int .i64 n, .int .i64 m] w fun e w' => e = .returned (.tuple #[.pointer none, .int .i64 1]) ∧ w = w' := by
 by_cases c1 : n < 1
 · clear h
   go_enter Try.func28, Try.ntmps28
   go_wp2
   refine bodyPost_ret (results_tmp2 rfl _ _ _) rfl ?_
   exact ⟨rfl, rfl⟩
 · have d1 : decide (n < 1) = false := decide_eq_false c1
   by_cases c2 : 8 < n
   · clear h c1
     go_enter Try.func28, Try.ntmps28
     go_wp2
     refine bodyPost_ret (results_tmp2 rfl _ _ _) rfl ?_
     exact ⟨rfl, rfl⟩
   · have d2 : decide (8 < n) = false := decide_eq_false c2
     by_cases c3 : m < 1
     · clear h c1 c2
       go_enter Try.func28, Try.ntmps28
       go_wp2
       refine bodyPost_ret (results_tmp2 rfl _ _ _) rfl ?_
       exact ⟨rfl, rfl⟩
     · have d3 : decide (m < 1) = false := decide_eq_false c3
       have c4 : 1024 < m := by omega
       clear h c1 c2 c3
       go_enter Try.func28, Try.ntmps28
       go_wp2
       refine bodyPost_ret (results_tmp2 rfl _ _ _) rfl ?_
       exact ⟨rfl, rfl⟩
end Go.Proofs.Ytifffmfbipjilaa.Z
