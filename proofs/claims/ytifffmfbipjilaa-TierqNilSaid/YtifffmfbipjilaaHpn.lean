/- New of a heap: nobody in it. -/
import Derived.Test.YtifffmfbipjilaaHpo
namespace Go.Proofs.Ytifffmfbipjilaa.Z.H
open Go.RowKit Go.Proofs.YtifffmfbipjilaaW.PrintWords Go.Proofs.YtifffmfbipjilaaW.PrintLast Go.Proofs.YtifffmfbipjilaaW.PrintMore
attribute [local go_sem] max2_int min2_int max_two min_two max_three min_three max_four min_four
set_option linter.unusedVariables false
set_option maxRecDepth 100000
set_option linter.unusedSimpArgs false
theorem set_filled {α : Type} (a b : α) (n k : Nat) (h : k < n) : (List.replicate k a ++ List.replicate (n - k) b).set k a = List.replicate (k + 1) a ++ List.replicate (n - (k + 1)) b := by
  rw [List.set_append, if_neg (by simp)]
  have h1 : k - (List.replicate k a).length = 0 := by simp
  have h2 : n - k = (n - (k + 1)) + 1 := by omega
  rw [h1, h2, List.replicate_succ, List.set_cons_zero, List.replicate_succ', List.append_assoc]
  rfl
theorem filled_at {α : Type} (a b : α) (n k : Nat) (h : k < n) : (List.replicate k a ++ List.replicate (n - k) b)[k]? = some b := by
  rw [List.getElem?_append_right (by simp)]
  simp [List.getElem?_replicate]; omega
theorem at_minus (n : Nat) : At [] (List.replicate n (-1)) where
  fwd k e h := by cases h
  back i v h := .inl (by rw [List.getElem?_replicate] at h; split at h <;> simp_all)
set_option maxHeartbeats 8000000 in
set_option maxRecDepth 100000 in
theorem hnew_ok (n : Nat) (h1 : 1 ≤ n) (h2 : n ≤ 1024) (w : World) : Calls Try.prog 30 #[.int .i64 n] w fun e w' => ∃ g ba, e = .returned (.tuple #[.pointer (some ⟨g, 0, none⟩), .int .i64 0]) ∧ HS w' g ba (.slice none 0 0) [] n ∧ w.heap.size ≤ g ∧ w.heap.size ≤ ba ∧ Below w.heap.size w w' := by
 have k1 : (1 : Int) ≤ (n : Int) := by omega
 have k2 : (n : Int) ≤ 1024 := by omega
 have hi : (Try.prog.info? 3).map (fun i => (i.zero, i.size, i.bytes)) = some (some (.int .i64 0), 1, 8) := by kernel_rfl
 obtain ⟨i, hi, he⟩ := Option.map_eq_some_iff.1 hi
 simp only [Prod.mk.injEq] at he
 obtain ⟨hz, hsz, hby⟩ := he
 have k0 : (0 : Int) ≤ (n : Int) := by omega
 have k5 : (n : Int) ≤ 9223372036854775807 := by omega
 have hbb : (i.bytes : Int) * (n : Int) ≤ 281474976710656 := by rw [hby]; omega
 have mk1 : ∀ W : World, (Instr.makeSlice 89 (.int .i64 (n : Int)) (.int .i64 (n : Int))).run Try.prog W = .ok (.slice (some ⟨W.heap.size, 0, none⟩) (n : Int).toNat (n : Int).toNat) (W.alloc (.cells (madeCells (Value.cells (.int .i64 0)) ((n : Int).toNat * i.size)) 3)) := fun W =>
  run_make (P := Try.prog) W 89 3 i _ Try.underlying89 hi hz .i64 .i64 n n k0 (Int.le_refl _) hbb k5
 rw [hsz] at mk1
 obtain ⟨M1, hM1⟩ : ∃ M, M = madeCells (Value.cells (.int .i64 0)) ((n : Int).toNat * 1) := ⟨_, rfl⟩
 rw [← hM1] at mk1
 have e1 : M1.toList = flat encI (List.replicate n 0) := by rw [hM1]; exact made_flat (k := 1) encI (by omega) _ 0 rfl rfl n
 have E1 := Aside0.mk e1
 have t1 : (n : Int).toNat = n := Int.toNat_natCast n
 rw [t1] at mk1
 clear hbb k0 k5 hi hz hsz hby hM1 e1 t1
 have d3 : decide ((n : Int) < 1) = false := decide_eq_false (by omega)
 have d4 : decide (1024 < (n : Int)) = false := decide_eq_false (by omega)
 go_enter Try.func30, Try.ntmps30
 go_wp2
 obtain ⟨ba, hba⟩ : ∃ ba, ba = w.heap.size := ⟨_, rfl⟩
 obtain ⟨g, hg⟩ : ∃ g, g = w.heap.size + 1 := ⟨_, rfl⟩
 have x1 : Blk (w.alloc (Obj.cells M1 3)) w.heap.size 3 (flat encI (List.replicate n 0)) := by
   have := Blk.new w 3 M1.toList
   rw [E1.out] at this
   simpa [← E1.out] using this
 have x3 := Blk.new (w.alloc (Obj.cells M1 3)) 119 [.slice none 0 0, .slice (some ⟨ba, 0, none⟩) n n]
 rw [World.size_alloc, ← hg] at x3
 have H0 : Hp ((w.alloc (Obj.cells M1 3)).alloc (Obj.cells #[Value.slice none 0 0, Value.slice (some { block := ba, off := 0 }) n n] 119)) g ba (.slice none 0 0) [] (List.replicate n 0) := by
   refine ⟨?_, Kd.R_nil _ _ _ _ _, ?_, by simp; omega⟩
   · simp only [List.length_replicate]; exact x3
   · rw [hba]; exact x1.alloc _
 have HB0 : Below w.heap.size w ((w.alloc (Obj.cells M1 3)).alloc (Obj.cells #[Value.slice none 0 0, Value.slice (some { block := ba, off := 0 }) n n] 119)) := below_alloc (below_alloc (Below.refl _ _) _) _
 have y1 : w.heap.size ≤ g := by omega
 have y2 : w.heap.size ≤ ba := by omega
 rw [← hg, ← hba]
 clear hg hba x1 x3 mk1 d3 d4
 generalize ((w.alloc (Obj.cells M1 3)).alloc (Obj.cells #[Value.slice none 0 0, Value.slice (some { block := ba, off := 0 }) n n] 119)) = w2 at *
 have HD := Aside0.mk H0
 have HB := Aside0.mk HB0
 clear H0 HB0
 go_loopw [21] (fun i wr => ∃ k : Nat, k ≤ n ∧ i = .int .i64 k ∧ Hp wr g ba (.slice none 0 0) [] (List.replicate k (-1) ++ List.replicate (n - k) 0) ∧ Kp [ba] w2 wr) (fun i _ => n - (intOf i).toNat)
 case atStart => exact ⟨0, Nat.zero_le _, rfl, HD.out, Kp.refl _ _⟩
 case round =>
   obtain ⟨k, hk, rfl, hd, hkp⟩ := hrel
   have hl : (List.replicate k (-1 : Int) ++ List.replicate (n - k) 0).length = n := by simp; omega
   have h1' := hd.head.cell 1 rfl
   rw [hl] at h1'
   by_cases hlt : k < n
   · have hlt' : (k : Int) < (n : Int) := by omega
     have hx := filled_at (-1 : Int) 0 n k hlt
     obtain ⟨b0, b1⟩ := hd.at_cell hx
     have HDK := Aside0.mk hd
     have HKP := Aside0.mk hkp
     clear hd hkp hx hl
     go_wp2
     refine ⟨⟨k + 1, by omega, by go_num, ?_, ?_⟩, by simp [intOf]; omega⟩
     · rw [← set_filled (-1 : Int) 0 n k hlt]
       exact HDK.out.told (-1) (by simp; omega)
     · exact HKP.out.set (.inl (by simp)) _
   · obtain rfl : k = n := by omega
     have hd2 : Hp wr g ba (.slice none 0 0) [] (List.replicate k (-1)) := by simpa using hd
     have HDK := Aside0.mk hd2
     have HKP := Aside0.mk hkp
     clear hd hd2 hkp hl
     go_wp2
     refine bodyPost_ret (results_tmp2 rfl _ _ _) rfl ?_
     exact ⟨g, ba, rfl, ⟨[], _, HDK.out, (fun j _ h => absurd h (by simp)), at_minus k, List.Perm.refl _, by simp⟩, y1, y2, Kp.to_below HB.out HB.out.size HKP.out (by simp only [List.mem_cons, List.not_mem_nil, or_false]; rintro b rfl; omega)⟩
end Go.Proofs.Ytifffmfbipjilaa.Z.H
