/- The rows' state in memory: a block of two cells, a block of rows, a block of links. -/
import Derived.Test.YtifffmfbipjilaaZlib
import Derived.Test.YtifffmfbipjilaaWMore
namespace Go.Proofs.Ytifffmfbipjilaa.Z
open Go.RowKit Go.Proofs.YtifffmfbipjilaaW
structure Rw where
  front : Int
  back : Int
  n : Int
structure Lk where
  row : Int
  prev : Int
  next : Int
structure Dq where
  rows : List Rw
  links : List Lk
def Rw.enc (r : Rw) : List Value := [.int .i64 r.front, .int .i64 r.back, .int .i64 r.n]
def Lk.enc (l : Lk) : List Value := [.int .i64 l.row, .int .i64 l.prev, .int .i64 l.next]
theorem Rw.enc_len (c : Rw) : c.enc.length = 3 := rfl
theorem Lk.enc_len (c : Lk) : c.enc.length = 3 := rfl
structure DqAt (w : World) (g br bl : Nat) (d : Dq) : Prop where
  head : Blk w g 109 [.slice (some ⟨br, 0, none⟩) d.rows.length d.rows.length, .slice (some ⟨bl, 0, none⟩) d.links.length d.links.length]
  rows : Blk w br 111 (flat Rw.enc d.rows)
  links : Blk w bl 113 (flat Lk.enc d.links)
  ne1 : g ≠ br
  ne2 : g ≠ bl
  ne3 : br ≠ bl
theorem DqAt.kp {S : List Nat} {w W : World} {g br bl : Nat} {d : Dq} (h : DqAt w g br bl d) (k : Kp S w W) (h1 : g ∉ S) (h2 : br ∉ S) (h3 : bl ∉ S) : DqAt W g br bl d := ⟨k.blk h.head h1, k.blk h.rows h2, k.blk h.links h3, h.ne1, h.ne2, h.ne3⟩
theorem DqAt.below {w W : World} {g br bl : Nat} {d : Dq} (h : DqAt w g br bl d) (k : Below w.heap.size w W) : DqAt W g br bl d := ⟨h.head.below k, h.rows.below k, h.links.below k, h.ne1, h.ne2, h.ne3⟩
theorem DqAt.heads {w : World} {g br bl : Nat} {d : Dq} (h : DqAt w g br bl d) : w.cell? ⟨g, 0, none⟩ = some (.slice (some ⟨br, 0, none⟩) d.rows.length d.rows.length) ∧ w.cell? ⟨g, 1, none⟩ = some (.slice (some ⟨bl, 0, none⟩) d.links.length d.links.length) ∧ (∀ j, w.frozen? ⟨br, j, none⟩ = false) ∧ (∀ j, w.frozen? ⟨bl, j, none⟩ = false) :=
  ⟨h.head.cell 0 rfl, h.head.cell 1 rfl, fun j => h.rows.frozen j, fun j => h.links.frozen j⟩
theorem DqAt.row {w : World} {g br bl : Nat} {d : Dq} (h : DqAt w g br bl d) {i : Nat} {c : Rw} (hc : d.rows[i]? = some c) :
    w.cell? ⟨br, i * 3, none⟩ = some (.int .i64 c.front) ∧ w.cell? ⟨br, i * 3 + 1, none⟩ = some (.int .i64 c.back) ∧ w.cell? ⟨br, i * 3 + 2, none⟩ = some (.int .i64 c.n) :=
  have k := Blk.cells_at Rw.enc_len h.rows i
  ⟨k 0 hc (by omega) rfl, k 1 hc (by omega) rfl, k 2 hc (by omega) rfl⟩
theorem DqAt.link {w : World} {g br bl : Nat} {d : Dq} (h : DqAt w g br bl d) {i : Nat} {c : Lk} (hc : d.links[i]? = some c) :
    w.cell? ⟨bl, i * 3, none⟩ = some (.int .i64 c.row) ∧ w.cell? ⟨bl, i * 3 + 1, none⟩ = some (.int .i64 c.prev) ∧ w.cell? ⟨bl, i * 3 + 2, none⟩ = some (.int .i64 c.next) :=
  have k := Blk.cells_at Lk.enc_len h.links i
  ⟨k 0 hc (by omega) rfl, k 1 hc (by omega) rfl, k 2 hc (by omega) rfl⟩
open PrintWords (Kd) in
theorem DqAt.keepR {α : Type} {dd : Kd α} {e base : Nat} {ok : Nat → Prop} {w W : World} {v : Value} {xs : List α} {g br bl : Nat} {d : Dq} (k : Kp [br, bl] w W) (hs : DqAt w g br bl d) (hR : dd.R e w base ok v xs) (hE : dd.E = []) (h1 : 111 ≠ e) (h2 : 113 ≠ e) : dd.R e W base ok v xs :=
  R_kp hE hR k (by
    simp only [List.mem_cons, List.not_mem_nil, or_false]
    rintro b (rfl | rfl)
    · exact ⟨_, _, hs.rows, h1⟩
    · exact ⟨_, _, hs.links, h2⟩)
open PrintWords (Kd) in
theorem DqAt.grown {α : Type} {dd : Kd α} {e base : Nat} {ok : Nat → Prop} {w W : World} {v : Value} {xs : List α} {g br bl : Nat} {d : Dq} (hg : w.grownBy W v.ownBlock) (hs : DqAt w g br bl d) (hR : dd.R e w base ok v xs) (h0 : 109 ≠ e) (h1 : 111 ≠ e) (h2 : 113 ≠ e) : DqAt W g br bl d := ⟨hs.head.grown hR h0 hg, hs.rows.grown hR h1 hg, hs.links.grown hR h2 hg, hs.ne1, hs.ne2, hs.ne3⟩
open PrintWords (Kd Kept) in
theorem DqAt.kept {α : Type} {dd : Kd α} {e base : Nat} {ok S : Nat → Prop} {w W : World} {v : Value} {xs : List α} {g br bl : Nat} {d : Dq} (k : Kept w W S) (hS : ∀ k, S k → some k = v.ownBlock) (hs : DqAt w g br bl d) (hR : dd.R e w base ok v xs) (h0 : 109 ≠ e) (h1 : 111 ≠ e) (h2 : 113 ≠ e) : DqAt W g br bl d := by
  have one : ∀ {b T : Nat} {l : List Value}, Blk w b T l → T ≠ e → Blk W b T l := by
    intro b T l hb hT
    refine (k.2 b hb.lt (fun hm => ?_)).trans hb
    obtain ⟨cells, hc⟩ := PrintWords.Kd.R_typed hR b (hS b hm).symm
    rw [hb] at hc
    injection hc with hc
    injection hc with _ hc
    exact hT hc
  exact ⟨one hs.head h0, one hs.rows h1, one hs.links h2, hs.ne1, hs.ne2, hs.ne3⟩
end Go.Proofs.Ytifffmfbipjilaa.Z
