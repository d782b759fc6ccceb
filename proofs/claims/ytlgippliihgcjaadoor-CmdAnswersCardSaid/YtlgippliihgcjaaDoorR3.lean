/- coil.Num, Text, Done of a reader. -/
import Derived.Test.YtlgippliihgcjaaDoorR2
import Derived.Deep.DeepCutAuto
namespace Go.Proofs.YtlgippliihgcjaaDoor.C
set_option linter.unusedVariables false
set_option linter.unusedSimpArgs false
open Go.RowKit Go.Proofs.YtlgippliihgcjaaDoorW.PrintWords

/-- A reader: where it is; why it does not go on (0: it does). -/
structure RS where
  p : Nat
  code : Int

/-- A reader in memory. -/
def RdS (w : World) (base g : Nat) (bs : List Int) (s : RS) : Prop := ∃ a_, Rd w base g s.p a_ s.code bs
/-- Bytes that may be read. -/
def Bytes (bs : List Int) : Prop := ∀ b ∈ bs, (0 : Int) ≤ b ∧ b < 256

theorem rn_le (bs : List Int) : ∀ (f k p acc : Nat), p ≤ bs.length → (rn bs f k p acc).2.2 ≤ bs.length := by
  intro f
  induction f with
  | zero => intro k p acc h; exact h
  | succ f ih =>
    intro k p acc h
    unfold rn
    split
    · exact h
    · rename_i c hc
      have := (List.getElem?_eq_some_iff.1 hc).1
      split
      · exact ih _ _ _ (by omega)
      · split
        · exact h
        · show p + 1 ≤ _; omega
theorem rn_bound (bs : List Int) : ∀ (f k p acc : Nat), acc < 128 ^ k → (rn bs f k p acc).2.1 < 128 ^ (k + f) := by
  intro f
  induction f with
  | zero => intro k p acc h; exact Nat.pow_pos (by omega)
  | succ f ih =>
    intro k p acc h
    unfold rn
    split
    · exact Nat.pow_pos (by omega)
    · rename_i c hc
      split
      · have := ih (k + 1) (p + 1) _ (acc_lt (c := c) h)
        rwa [show k + 1 + f = k + (f + 1) by omega] at this
      · split
        · exact Nat.pow_pos (by omega)
        · exact Nat.lt_of_lt_of_le (acc_lt h) (Nat.pow_le_pow_right (by omega) (by omega))
theorem readN_le {bs : List Int} {p : Nat} (h : p ≤ bs.length) : (readN bs p).2.2 ≤ bs.length := rn_le bs 9 0 p 0 h
theorem readN_bound (bs : List Int) (p : Nat) : (readN bs p).2.1 ≤ 9223372036854775807 := by
  have := rn_bound bs 9 0 p 0 (by decide)
  have h : (128 : Nat) ^ (0 + 9) = 9223372036854775808 := by decide
  unfold readN
  omega

/-- A number more. -/
def stN (bs : List Int) (s : RS) : RS × Nat :=
  if s.code = 0 then ((if (readN bs s.p).1 = 0 then ⟨(readN bs s.p).2.2, 0⟩ else ⟨s.p, (readN bs s.p).1⟩), (readN bs s.p).2.1) else (s, 0)

theorem grown_id {w : World} (row : Option Nat) : w.grownBy w row := grown_refl w row

set_option maxHeartbeats 1000000 in
set_option maxRecDepth 100000 in
theorem rnumber_spoiled (base g : Nat) (p from_ a_ code : Int) (bs : List Int) (w : World) (h : Rd w base g p a_ code bs) (hc : code ≠ 0) :
    Calls Tryd.prog 75 #[.pointer (some ⟨g, 0, none⟩), .int .i64 from_] w fun e w' => e = .returned (.int .i64 0) ∧ w = w' := by
  obtain ⟨hg, ev, bv, hR, hO, he⟩ := h
  rcases he with ⟨h0, _⟩ | ⟨_, b, rfl, _, _⟩
  · exact absurd h0 hc
  have z1 : w.cell? ⟨g, 1, none⟩ = some (.iface 121 (.pointer (some ⟨b, 0, none⟩))) := (blk_cell hR 1).trans rfl
  clear hR hO hg hc
  go_enter Tryd.func75, Tryd.ntmps75
  go_wp2
  go_loop [5, 6] (fun n i => n = .int .i64 0 ∧ i = .int .i64 0) (fun _ _ => 0)
  case atStart => exact ⟨rfl, rfl⟩
  case round =>
    obtain ⟨rfl, rfl⟩ := hrel
    go_wp2
    go_ret
    exact ⟨rfl, rfl⟩

theorem rnumber_s (base g : Nat) (from_ : Int) (bs : List Int) (s : RS) (w : World) (h : RdS w base g bs s) (hB : base ≤ w.heap.size) (hby : Bytes bs) (hp : s.p ≤ bs.length) :
    Calls Tryd.prog 75 #[.pointer (some ⟨g, 0, none⟩), .int .i64 from_] w fun e w' => e = .returned (.int .i64 (stN bs s).2) ∧
      (∃ a_, Rd w' base g (if s.code = 0 then if (readN bs s.p).1 = 0 then ((readN bs s.p).2.2 : Int) else from_ else s.p) a_ (stN bs s).1.code bs) ∧ w.grownBy w' (some g) := by
  obtain ⟨a_, h⟩ := h
  by_cases hc : s.code = 0
  · rw [hc] at h
    refine (rnumber_any base g s.p from_ a_ bs w h hB hby hp).mono ?_
    rintro e w' ⟨rfl, h1, h2⟩
    refine ⟨by simp [stN, hc], ⟨from_, ?_⟩, h2⟩
    simp only [stN, hc, if_true]
    by_cases h0 : (readN bs s.p).1 = 0
    · simpa [h0] using h1
    · simpa [h0] using h1
  · refine (rnumber_spoiled base g s.p from_ a_ s.code bs w h hc).mono ?_
    rintro e w' ⟨rfl, rfl⟩
    refine ⟨by simp [stN, hc], ⟨a_, ?_⟩, grown_id _⟩
    simpa [stN, hc] using h

set_option maxHeartbeats 1000000 in
set_option maxRecDepth 100000 in
theorem rNum_s (base g : Nat) (bs : List Int) (s : RS) (w : World) (h : RdS w base g bs s) (hB : base ≤ w.heap.size) (hby : Bytes bs) (hp : s.p ≤ bs.length) :
    Calls Tryd.prog 48 #[.pointer (some ⟨g, 0, none⟩)] w fun e w' => e = .returned (.int .i64 (stN bs s).2) ∧ RdS w' base g bs (stN bs s).1 ∧ w.grownBy w' (some g) := by
  have HC := Lib.hid (rnumber_s base g s.p bs s w h hB hby hp)
  obtain ⟨a_, hg, ev, bv, hR, hO, he⟩ := h
  have z0 : w.cell? ⟨g, 0, none⟩ = some (.int .i64 s.p) := (blk_cell hR 0).trans rfl
  clear hR hO he hby
  go_enter Tryd.func48, Tryd.ntmps48
  go_wp2_with fail
  refine HC.out.mono ?_
  rintro e w' ⟨rfl, h1, h2⟩
  have H1 := Lib.hid h1
  have H2 := Lib.hid h2
  clear h1 h2 HC z0
  go_wp2_with fail
  go_ret
  obtain ⟨b_, h1⟩ := H1.out
  refine ⟨rfl, ⟨b_, ?_⟩, H2.out⟩
  unfold stN at h1 ⊢
  split
  · rename_i hc
    simp only [hc, if_true] at h1 ⊢
    split
    · rename_i h0; simpa [h0] using h1
    · rename_i h0; simpa [h0] using h1
  · rename_i hc
    simpa [hc] using h1

end Go.Proofs.YtlgippliihgcjaaDoor.C
