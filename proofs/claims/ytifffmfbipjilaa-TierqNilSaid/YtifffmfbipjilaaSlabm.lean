/- The slab's state in memory: a block of four cells, and a block of cells of eight. -/
import Derived.Test.YtifffmfbipjilaaZlib
namespace Go.Proofs.Ytifffmfbipjilaa.Z
open Go.RowKit Go.Proofs.YtifffmfbipjilaaW
structure Rq where
  t : Int
  tier : Int
  coh : Int
  dl : Int
  ar : Int
  deriving DecidableEq
structure Cel where
  q : Rq
  turns : Int
  taken : Bool
  next : Int
structure Slb where
  cells : List Cel
  freed : Int
  fresh : Int
  len : Int
def Rq.enc (q : Rq) : List Value := [.int .u64 q.t, .int .i64 q.tier, .int .i64 q.coh, .int .i64 q.dl, .int .i64 q.ar]
def Rq.val (q : Rq) : Value := .agg #[.int .u64 q.t, .int .i64 q.tier, .int .i64 q.coh, .int .i64 q.dl, .int .i64 q.ar]
def Cel.enc (c : Cel) : List Value := [.int .u64 c.q.t, .int .i64 c.q.tier, .int .i64 c.q.coh, .int .i64 c.q.dl, .int .i64 c.q.ar, .int .u32 c.turns, .bool c.taken, .int .i64 c.next]
def Rq.kd : PrintWords.Kd Rq := fk Rq.enc 5 (fun _ => rfl) (fun x u hu => by simp [Rq.enc] at hu; rcases hu with rfl | rfl | rfl | rfl | rfl <;> rfl)
abbrev Rq.ok (q : Rq) : Prop := (Lit.int .u64 q.t).wf = true ∧ (Lit.int .i64 q.tier).wf = true ∧ (Lit.int .i64 q.coh).wf = true ∧ (Lit.int .i64 q.dl).wf = true ∧ (Lit.int .i64 q.ar).wf = true
theorem Cel.enc_len (c : Cel) : c.enc.length = 8 := rfl
/-- Slab s lies in blocks g and gc. -/
structure SlabAt (w : World) (g gc : Nat) (s : Slb) : Prop where
  head : Blk w g 116 [.slice (some ⟨gc, 0, none⟩) s.cells.length s.cells.length, .int .i64 s.freed, .int .i64 s.fresh, .int .i64 s.len]
  body : Blk w gc 122 (flat Cel.enc s.cells)
  ne : g ≠ gc
theorem SlabAt.kp {S : List Nat} {w W : World} {g gc : Nat} {s : Slb} (h : SlabAt w g gc s) (k : Kp S w W) (hg : g ∉ S) (hgc : gc ∉ S) : SlabAt W g gc s := ⟨k.blk h.head hg, k.blk h.body hgc, h.ne⟩
/-- What the walk reads of a slab: its head's cells. -/
theorem SlabAt.heads {w : World} {g gc : Nat} {s : Slb} (h : SlabAt w g gc s) : w.cell? ⟨g, 0, none⟩ = some (.slice (some ⟨gc, 0, none⟩) s.cells.length s.cells.length) ∧ w.cell? ⟨g, 1, none⟩ = some (.int .i64 s.freed) ∧ w.cell? ⟨g, 2, none⟩ = some (.int .i64 s.fresh) ∧ w.cell? ⟨g, 3, none⟩ = some (.int .i64 s.len) ∧ (∀ j, w.frozen? ⟨g, j, none⟩ = false) ∧ (∀ j, w.frozen? ⟨gc, j, none⟩ = false) :=
  ⟨h.head.cell 0 rfl, h.head.cell 1 rfl, h.head.cell 2 rfl, h.head.cell 3 rfl, fun j => h.head.frozen j, fun j => h.body.frozen j⟩
/-- .. and cell i. -/
theorem SlabAt.cel {w : World} {g gc : Nat} {s : Slb} (h : SlabAt w g gc s) {i : Nat} {c : Cel} (hc : s.cells[i]? = some c) :
    w.cell? ⟨gc, i * 8, none⟩ = some (.int .u64 c.q.t) ∧ w.cell? ⟨gc, i * 8 + 1, none⟩ = some (.int .i64 c.q.tier) ∧ w.cell? ⟨gc, i * 8 + 2, none⟩ = some (.int .i64 c.q.coh) ∧ w.cell? ⟨gc, i * 8 + 3, none⟩ = some (.int .i64 c.q.dl) ∧ w.cell? ⟨gc, i * 8 + 4, none⟩ = some (.int .i64 c.q.ar) ∧ w.cell? ⟨gc, i * 8 + 5, none⟩ = some (.int .u32 c.turns) ∧ w.cell? ⟨gc, i * 8 + 6, none⟩ = some (.bool c.taken) ∧ w.cell? ⟨gc, i * 8 + 7, none⟩ = some (.int .i64 c.next) :=
  have k := Blk.cells_at Cel.enc_len h.body i
  ⟨k 0 hc (by omega) rfl, k 1 hc (by omega) rfl, k 2 hc (by omega) rfl, k 3 hc (by omega) rfl, k 4 hc (by omega) rfl, k 5 hc (by omega) rfl, k 6 hc (by omega) rfl, k 7 hc (by omega) rfl⟩
theorem Rq.came {w : World} {ad : Addr} {n : Nat} {xs : List Rq} (h : Rq.kd.C w (some ad) n xs) {i : Nat} {x : Rq} (hx : xs[i]? = some x) :
    w.cell? (ad.add (i * 5)) = some (.int .u64 x.t) ∧ w.cell? ⟨(ad.add (i * 5)).block, (ad.add (i * 5)).off + 1, none⟩ = some (.int .i64 x.tier) ∧ w.cell? ⟨(ad.add (i * 5)).block, (ad.add (i * 5)).off + 2, none⟩ = some (.int .i64 x.coh) ∧ w.cell? ⟨(ad.add (i * 5)).block, (ad.add (i * 5)).off + 3, none⟩ = some (.int .i64 x.dl) ∧ w.cell? ⟨(ad.add (i * 5)).block, (ad.add (i * 5)).off + 4, none⟩ = some (.int .i64 x.ar) :=
  have k := fk_came h hx
  ⟨k.1 _ rfl, k.2 0 _ rfl, k.2 1 _ rfl, k.2 2 _ rfl, k.2 3 _ rfl⟩
open PrintWords (Kd) in
theorem SlabAt.keepR {α : Type} {d : Kd α} {e base : Nat} {ok : Nat → Prop} {w W : World} {v : Value} {xs : List α} {g gc : Nat} {s : Slb} (k : Kp [g, gc] w W) (hs : SlabAt w g gc s) (hR : d.R e w base ok v xs) (hE : d.E = []) (h1 : 116 ≠ e) (h2 : 122 ≠ e) : d.R e W base ok v xs :=
  R_kp hE hR k (by
    simp only [List.mem_cons, List.not_mem_nil, or_false]
    rintro b (rfl | rfl)
    · exact ⟨_, _, hs.head, h1⟩
    · exact ⟨_, _, hs.body, h2⟩)
theorem kp2_below {B g gc : Nat} {w W V : World} (k : Kp [g, gc] W V) (hb : Below B w W) (hB : B ≤ W.heap.size) (h1 : B ≤ g) (h2 : B ≤ gc) : Below B w V :=
  Kp.to_below hb hB k (by simp only [List.mem_cons, List.not_mem_nil, or_false]; rintro b (rfl | rfl) <;> omega)
open PrintWords (Kd) in
theorem SlabAt.grown {α : Type} {d : Kd α} {e base : Nat} {ok : Nat → Prop} {w W : World} {v : Value} {xs : List α} {g gc : Nat} {s : Slb} (hg : w.grownBy W v.ownBlock) (hs : SlabAt w g gc s) (hR : d.R e w base ok v xs) (h1 : 116 ≠ e) (h2 : 122 ≠ e) : SlabAt W g gc s := ⟨hs.head.grown hR h1 hg, hs.body.grown hR h2 hg, hs.ne⟩
end Go.Proofs.Ytifffmfbipjilaa.Z
