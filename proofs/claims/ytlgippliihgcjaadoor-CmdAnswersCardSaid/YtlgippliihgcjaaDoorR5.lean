/- coil.Done of a reader. -/
import Derived.Test.YtlgippliihgcjaaDoorR4
namespace Go.Proofs.YtlgippliihgcjaaDoor.C
set_option linter.unusedVariables false
set_option linter.unusedSimpArgs false
open Go.RowKit Go.Proofs.YtlgippliihgcjaaDoorW.PrintWords

/-- What is amiss at the end. -/
def stD (bs : List Int) (s : RS) : Int := if s.code = 0 then (if s.p < bs.length then 2 else 0) else s.code

theorem ErrV.below {w w1 : World} {base : Nat} {v : Value} {p q : Int} (h : ErrV w base v p q) (hb : Below w.heap.size w w1) : ErrV w1 base v p q := by
  rcases h with h | ⟨h1, h2⟩
  · exact .inl h
  · exact .inr ⟨h1, h2.below hb⟩
theorem ErrV.lower {w : World} {base base' : Nat} {v : Value} {p q : Int} (h : ErrV w base v p q) (hb : base' ≤ base) : ErrV w base' v p q := by
  rcases h with h | ⟨h1, h2⟩
  · exact .inl h
  · exact .inr ⟨h1, h2.lower hb⟩
theorem Rd.below {w w1 : World} {base g : Nat} {p a_ code : Int} {bs : List Int} (h : Rd w base g p a_ code bs) (hb : Below w.heap.size w w1) : Rd w1 base g p a_ code bs := by
  obtain ⟨x1, ev, bv, x2, x3, x4⟩ := h
  exact ⟨x1, ev, bv, (hb.block g (blk_lt x2)).trans x2, x3.below hb, x4.below hb⟩
theorem RdS.below {w w1 : World} {base g : Nat} {bs : List Int} {s : RS} (h : RdS w base g bs s) (hb : Below w.heap.size w w1) : RdS w1 base g bs s := by
  obtain ⟨a_, h⟩ := h
  exact ⟨a_, h.below hb⟩

set_option maxHeartbeats 4000000 in
set_option maxRecDepth 100000 in
theorem done_s (base g : Nat) (bs : List Int) (s : RS) (w : World) (h : RdS w base g bs s) (hB : base ≤ w.heap.size) (hp : s.p ≤ bs.length) :
    Calls Tryd.prog 50 #[.pointer (some ⟨g, 0, none⟩)] w fun e w' => (∃ v a_, e = .returned v ∧ ErrV w' base v a_ (stD bs s)) ∧ Below w.heap.size w w' := by
  obtain ⟨a_, h⟩ := h
  by_cases hc : s.code = 0
  · obtain ⟨A, c, hR, hO, hr⟩ := h.evGood hc
    have HR := Lib.hid hR
    have HC := Lib.hid hc
    have hlen := hr.len
    have z0 : w.cell? ⟨g, 0, none⟩ = some (.int .i64 s.p) := (blk_cell hR 0).trans rfl
    have z1 : w.cell? ⟨g, 1, none⟩ = some .nilIface := (blk_cell hR 1).trans rfl
    clear hR hO hr h hc
    by_cases hlt : s.p < bs.length
    · have hpos : (0 : Int) < bs.length - s.p := by omega
      have HL := Lib.hid hlt
      clear hlt
      go_enter Tryd.func50, Tryd.ntmps50
      go_wp2_with fail
      refine (left_any g s.p .nilIface A bs.length c w HR.out (by omega) (by omega) hlen).mono ?_
      rintro e w2 ⟨rfl, nq, rfl⟩
      go_wp2_with fail
      go_ret
      have hb : Below w.heap.size w (w.drewN nq) := pw_below_drewN (Below.refl _ _) _
      have hs : stD bs s = 2 := by unfold stD; rw [if_pos HC.out, if_pos HL.out]
      rw [hs]
      exact ⟨⟨_, s.p, rfl, .inr ⟨by decide, _, rfl, hB, heap_alloc_new (w.drewN nq) _⟩⟩, hb.alloc hb.size _⟩
    · have hneg : ¬ (0 : Int) < bs.length - s.p := by omega
      have HL := Lib.hid hlt
      clear hlt
      go_enter Tryd.func50, Tryd.ntmps50
      go_wp2_with fail
      refine (left_any g s.p .nilIface A bs.length c w HR.out (by omega) (by omega) hlen).mono ?_
      rintro e w2 ⟨rfl, nq, rfl⟩
      go_wp2_with fail
      go_ret
      have hs : stD bs s = 0 := by unfold stD; rw [if_pos HC.out, if_neg HL.out]
      rw [hs]
      exact ⟨⟨_, 0, rfl, .inl ⟨rfl, rfl⟩⟩, pw_below_drewN (Below.refl _ _) _⟩
  · obtain ⟨hg, ev, bv, hR, hO, he⟩ := h
    have HE := Lib.hid he
    rcases he with ⟨h0, _⟩ | ⟨_, b, rfl, _, _⟩
    · exact absurd h0 hc
    have z1 : w.cell? ⟨g, 1, none⟩ = some (.iface 121 (.pointer (some ⟨b, 0, none⟩))) := (blk_cell hR 1).trans rfl
    have HC := Lib.hid hc
    clear hR hO hc
    go_enter Tryd.func50, Tryd.ntmps50
    go_wp2_with fail
    go_ret
    have hs : stD bs s = s.code := by unfold stD; rw [if_neg HC.out]
    rw [hs]
    exact ⟨⟨_, a_, rfl, HE.out⟩, Below.refl _ _⟩

end Go.Proofs.YtlgippliihgcjaaDoor.C
