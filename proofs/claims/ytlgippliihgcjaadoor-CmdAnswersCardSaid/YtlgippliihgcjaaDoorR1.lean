/- coil.Of, spoil, At, Left. -/
import Derived.Test.YtlgippliihgcjaaDoorC4
import Derived.Laws.BitsLemmas
namespace Go.Proofs.YtlgippliihgcjaaDoor.C
set_option linter.unusedVariables false
set_option linter.unusedSimpArgs false
open Go.RowKit Go.Proofs.YtlgippliihgcjaaDoorW.PrintWords

theorem grown_trans {a b c : World} {row : Option Nat} (h : a.grownBy b row) (k : b.grownBy c row) : a.grownBy c row :=
  ⟨k.os.trans h.os, k.tape.trans h.tape, k.output.trans h.output, Nat.le_trans h.size k.size, fun i hi hr => (k.block i (Nat.lt_of_lt_of_le hi h.size) hr).trans (h.block i hi hr)⟩
theorem grown_refl (a : World) (row : Option Nat) : a.grownBy a row := World.grownBy.refl a row
theorem grown_set (a : World) (g o : Nat) (u : Value) : a.grownBy (a.setCell ⟨g, o, none⟩ u) (some g) :=
  ⟨rfl, rfl, rfl, by simp [World.setCell], fun i _ hr => Below.heap_setCell a ⟨g, o, none⟩ u i (fun e => hr (by rw [e]))⟩
theorem grown_alloc (a : World) (o : Obj) (row : Option Nat) : a.grownBy (a.alloc o) row := World.grownBy_alloc a o row
theorem grown_below {a b : World} (h : Below a.heap.size a b) (row : Option Nat) : a.grownBy b row := grown_of_below h row
theorem grown_drew (a : World) (row : Option Nat) : a.grownBy a.drew row := grown_of_below (below_drew (Below.refl _ _)) row
theorem grown_drewN (a : World) (n : Nat) (row : Option Nat) : a.grownBy (a.drewN n) row := grown_of_below (pw_below_drewN (Below.refl _ _) n) row
theorem below_grown {B : Nat} {w a b : World} {g : Nat} (h : Below B w a) (hB : B ≤ a.heap.size) (k : a.grownBy b (some g)) (hg : B ≤ g) : Below B w b := h.grown k hB (fun i e => by injection e with e; omega)

/-- An error of coil: a place, and a number of api. -/
def ErrIs (w : World) (base : Nat) (v : Value) (at_ code : Int) : Prop :=
  ∃ b, v = .iface 121 (.pointer (some ⟨b, 0, none⟩)) ∧ base ≤ b ∧ w.heap[b]? = some (.cells #[.int .i64 at_, .iface 41 (.int .i64 code)] 123 (0, 0))
theorem ErrIs.below {w w1 : World} {base : Nat} {v : Value} {p q : Int} (h : ErrIs w base v p q) (hb : Below w.heap.size w w1) : ErrIs w1 base v p q := by
  obtain ⟨b, e, hl, hc⟩ := h
  exact ⟨b, e, hl, (hb.block b (blk_lt hc)).trans hc⟩
theorem ErrIs.lower {w : World} {base base' : Nat} {v : Value} {p q : Int} (h : ErrIs w base v p q) (hb : base' ≤ base) : ErrIs w base' v p q := by
  obtain ⟨b, e, hl, hc⟩ := h
  exact ⟨b, e, Nat.le_trans hb hl, hc⟩

/-- A reader's block: the place, why it does not go on, and its bytes. -/
def RdAt (w : World) (g : Nat) (p : Int) (ev bv : Value) : Prop := w.heap[g]? = some (.cells #[.int .i64 p, ev, bv] 144 (0, 0))
/-- Why a reader does not go on: 0: it does. -/
def ErrV (w : World) (base : Nat) (v : Value) (at_ code : Int) : Prop := (code = 0 ∧ v = .nilIface) ∨ (code ≠ 0 ∧ ErrIs w base v at_ code)
/-- A reader. -/
def Rd (w : World) (base g : Nat) (p : Int) (at_ code : Int) (bs : List Int) : Prop :=
  base ≤ g ∧ ∃ ev bv, RdAt w g p ev bv ∧ BOwn w base bv bs ∧ ErrV w base ev at_ code

theorem ErrIs.grown {w w1 : World} {base : Nat} {v : Value} {p q : Int} {g : Nat} {cs : Array Value} (h : ErrIs w base v p q) (hg : w.heap[g]? = some (.cells cs 144 (0, 0))) (k : w.grownBy w1 (some g)) : ErrIs w1 base v p q := by
  obtain ⟨b, e, hl, hc⟩ := h
  exact ⟨b, e, hl, (k.block b (blk_lt hc) (fun e => by injection e with e; subst e; rw [hc] at hg; injection hg with hg; injection hg with _ hg; exact absurd hg (by decide))).trans hc⟩
theorem BOwn.grownR {w w1 : World} {base : Nat} {v : Value} {bs : List Int} {g : Nat} {cs : Array Value} (h : BOwn w base v bs) (hg : w.heap[g]? = some (.cells cs 144 (0, 0))) (k : w.grownBy w1 (some g)) : BOwn w1 base v bs :=
  own_other h k (.inr (fun e => own_ne h hg (by decide) e.symm))

set_option maxHeartbeats 1000000 in
set_option maxRecDepth 100000 in
theorem spoil_any (g : Nat) (p q code : Int) (ev bv : Value) (w : World) (h : RdAt w g p ev bv) :
    Calls Tryd.prog 76 #[.pointer (some ⟨g, 0, none⟩), .int .i64 q, .iface 41 (.int .i64 code)] w fun e w' => e = .returned (.tuple #[]) ∧ (∃ ev', RdAt w' g q ev' bv ∧ ErrIs w' w.heap.size ev' q code) ∧ w.grownBy w' (some g) := by
  have HR := Lib.hid h
  have z0 : w.cell? ⟨g, 0, none⟩ = some (.int .i64 p) := (blk_cell HR.out 0).trans rfl
  have z1 : w.cell? ⟨g, 1, none⟩ = some ev := (blk_cell HR.out 1).trans rfl
  have f0 := blk_frozen HR.out 0
  have f1 := blk_frozen HR.out 1
  clear h
  go_enter Tryd.func76, Tryd.ntmps76
  go_wp2_with ((with_reducible refine gate_dst (N := 14) rfl ?_); refine box_event ?hg (N := 14) ?hd (cs := #[.int .i64 q, .iface 41 (.int .i64 code)]) (t := 123) ?hr ?_; (case hd => rfl); (case hg => rfl); (case hr => first | (go_simp; done) | (go_simp; rfl)); intro g2 hg w1 hbox hb; have HG := Lib.hid hg; have HB := Lib.hid hb; have HX := Lib.hid hbox; have z1' : w1.cell? ⟨g, 1, none⟩ = some ev := (blk_cell ((hb.block g (blk_lt (blk_set HR.out 0 (.int .i64 q)))).trans (blk_set HR.out 0 (.int .i64 q))) 1).trans rfl; have f1' := blk_frozen ((hb.block g (blk_lt (blk_set HR.out 0 (.int .i64 q)))).trans (blk_set HR.out 0 (.int .i64 q))) 1; clear hg hbox hb z0 z1 f0 f1)
  go_end0
  have hs := blk_set HR.out 0 (.int .i64 q)
  have hw : w.heap.size = (w.setCell ⟨g, 0, none⟩ (.int .i64 q)).heap.size := by simp [World.setCell]
  have hlt := blk_lt hs
  have hne : g ≠ g2 := by rw [HG.out]; omega
  have h1 := (HB.out.block g hlt).trans hs
  refine ⟨rfl, ⟨_, blk_set h1 1 (.iface 121 (.pointer (some ⟨g2, 0, none⟩))), g2, rfl, by rw [HG.out, ← hw]; exact Nat.le_refl _, blk_far HX.out (p := ⟨g, 1, none⟩) (fun e => hne e.symm) _⟩, ?_⟩
  exact grown_trans (grown_trans (grown_set w g 0 _) (grown_below HB.out _)) (grown_set _ g 1 _)

end Go.Proofs.YtlgippliihgcjaaDoor.C
