/- cmd.numbers, cmd.texts, cmd.Right. -/
import Derived.Test.YtlgippliihgcjaaDoorC0
import Derived.StillTailTactics
namespace Go.Proofs.YtlgippliihgcjaaDoor.C
set_option linter.unusedVariables false
set_option linter.unusedSimpArgs false
open Go.RowKit Go.Proofs.YtlgippliihgcjaaDoorW.PrintWords

structure Cm where
  client : Int
  req : Int
  kind : Int
  queue : ByteArray
  vis : Int
  ret : Int
  del : Int
  win : Int
  mx : Int
  dead : ByteArray
  fifo : Bool
  body : ByteArray
  group : ByteArray
  key : ByteArray
  receipt : ByteArray
  bodies : List ByteArray
  n : Int
  m : Int

/-- The numbers that are written ahead of Fifo; the texts. -/
def Cm.nums (c : Cm) : List Int := [c.client, c.req, c.kind, c.n + 1, c.m, c.vis, c.ret, c.del, c.win, c.mx]
def Cm.txts (c : Cm) : List ByteArray := [c.queue, c.dead, c.body, c.group, c.key, c.receipt]
/-- A command that may be written. -/
def right (c : Cm) : Bool := decide (-1 ≤ c.n ∧ c.n < 4611686018427387904) && (c.nums.all numOk && (c.txts.all txtOk && (decide (c.bodies.length ≤ 10) && c.bodies.all txtOk)))

set_option maxHeartbeats 4000000 in
set_option maxRecDepth 100000 in
theorem numbers_any (g : Nat) (w : World) :
    Calls Tryd.prog 31 #[.pointer (some ⟨g, 0, none⟩)] w fun e w' => ∃ b, e = .returned (.slice (some ⟨b, 0, none⟩) 10 10) ∧ w.heap.size ≤ b ∧ Below w.heap.size w w' ∧
      w'.heap[b]? = some (.cells #[.pointer (some ⟨g, 0, none⟩), .pointer (some ⟨g, 1, none⟩), .pointer (some ⟨g, 2, none⟩), .pointer (some ⟨g, 16, none⟩), .pointer (some ⟨g, 17, none⟩), .pointer (some ⟨g, 4, none⟩), .pointer (some ⟨g, 5, none⟩), .pointer (some ⟨g, 6, none⟩), .pointer (some ⟨g, 7, none⟩), .pointer (some ⟨g, 8, none⟩)] 77 (0, 0)) := by
  go_enter Tryd.func31, Tryd.ntmps31
  go_wp2
  go_still_tail 35, (by kernel_rfl)
  change wpList _ _ _ _ _ w.drew
  have HB := Lib.hid (below_drew1 (Below.refl w.heap.size w))
  generalize w.drew = w2 at HB ⊢
  go_wp2
  go_ret
  exact ⟨_, rfl, HB.out.size, HB.out.alloc HB.out.size _, heap_alloc_new _ _⟩

set_option maxHeartbeats 4000000 in
set_option maxRecDepth 100000 in
theorem texts_any (g : Nat) (w : World) :
    Calls Tryd.prog 33 #[.pointer (some ⟨g, 0, none⟩)] w fun e w' => ∃ b, e = .returned (.slice (some ⟨b, 0, none⟩) 6 6) ∧ w.heap.size ≤ b ∧ Below w.heap.size w w' ∧
      w'.heap[b]? = some (.cells #[.pointer (some ⟨g, 3, none⟩), .pointer (some ⟨g, 9, none⟩), .pointer (some ⟨g, 11, none⟩), .pointer (some ⟨g, 12, none⟩), .pointer (some ⟨g, 13, none⟩), .pointer (some ⟨g, 14, none⟩)] 81 (0, 0)) := by
  go_enter Tryd.func33, Tryd.ntmps33
  go_wp2
  go_still_tail 19, (by kernel_rfl)
  change wpList _ _ _ _ _ w.drew
  have HB := Lib.hid (below_drew1 (Below.refl w.heap.size w))
  generalize w.drew = w2 at HB ⊢
  go_wp2
  go_ret
  exact ⟨_, rfl, HB.out.size, HB.out.alloc HB.out.size _, heap_alloc_new _ _⟩

end Go.Proofs.YtlgippliihgcjaaDoor.C
