/- coil.Text of a reader. -/
import Derived.Test.YtlgippliihgcjaaDoorR3
namespace Go.Proofs.YtlgippliihgcjaaDoor.C
set_option linter.unusedVariables false
set_option linter.unusedSimpArgs false
open Go.RowKit Go.Proofs.YtlgippliihgcjaaDoorW.PrintWords

/-- A text more. -/
def stT (bs : List Int) (most : Nat) (s : RS) : RS × ByteArray :=
  if s.code = 0 then
    if (readN bs s.p).1 = 0 then
      if most < (readN bs s.p).2.1 then (⟨s.p, 2⟩, ByteArray.empty)
      else if bs.length - (readN bs s.p).2.2 < (readN bs s.p).2.1 then (⟨s.p, 3⟩, ByteArray.empty)
      else (⟨(readN bs s.p).2.2 + (readN bs s.p).2.1, 0⟩, strOfNums ((bs.drop (readN bs s.p).2.2).take (readN bs s.p).2.1))
    else (⟨s.p, (readN bs s.p).1⟩, ByteArray.empty)
  else (s, ByteArray.empty)

theorem Rd.evBad {w : World} {base g : Nat} {p a_ code : Int} {bs : List Int} (h : Rd w base g p a_ code bs) (hc : code ≠ 0) : ∃ b bv, RdAt w g p (.iface 121 (.pointer (some ⟨b, 0, none⟩))) bv := by
  obtain ⟨_, ev, bv, hR, _, he⟩ := h
  rcases he with ⟨h0, _⟩ | ⟨_, b, rfl, _, _⟩
  · exact absurd h0 hc
  · exact ⟨b, bv, hR⟩
theorem Rd.evGood {w : World} {base g : Nat} {p a_ code : Int} {bs : List Int} (h : Rd w base g p a_ code bs) (hc : code = 0) : ∃ A c, RdAt w g p .nilIface (.slice A bs.length c) ∧ BOwn w base (.slice A bs.length c) bs ∧ BRead w A bs := by
  obtain ⟨_, ev, bv, hR, hO, he⟩ := h
  rcases he with ⟨_, rfl⟩ | ⟨h0, _⟩
  · obtain ⟨A, c, rfl, _, hr⟩ := hO.form
    exact ⟨A, c, hR, hO, hr⟩
  · exact absurd hc h0

theorem spoil_rd (base g : Nat) (p q a_ code : Int) (bs : List Int) (w : World) (h : Rd w base g p a_ 0 bs) (hB : base ≤ w.heap.size) (hc : code ≠ 0) :
    Calls Tryd.prog 76 #[.pointer (some ⟨g, 0, none⟩), .int .i64 q, .iface 41 (.int .i64 code)] w fun e w' => e = .returned (.tuple #[]) ∧ Rd w' base g q q code bs ∧ w.grownBy w' (some g) := by
  obtain ⟨hg, ev, bv, hR, hO, he⟩ := h
  refine (spoil_any g p q code ev bv w hR).mono ?_
  rintro e w' ⟨rfl, ⟨ev2, h1, h2⟩, h3⟩
  exact ⟨rfl, ⟨hg, ev2, bv, h1, hO.grownR hR h3, .inr ⟨hc, h2.lower hB⟩⟩, h3⟩

theorem stT_bad {bs : List Int} {most : Nat} {s : RS} (h : (stN bs s).1.code ≠ 0) : stT bs most s = ((stN bs s).1, ByteArray.empty) := by
  unfold stN at h ⊢
  unfold stT
  split at h
  · rename_i hc
    split at h
    · rename_i h0; exact absurd rfl h
    · rename_i h0; rw [if_pos hc, if_neg h0, if_pos hc, if_neg h0]
  · rename_i hc; rw [if_neg hc, if_neg hc]
theorem stN_p (bs : List Int) (s : RS) : (if s.code = 0 then if (readN bs s.p).1 = 0 then ((readN bs s.p).2.2 : Int) else s.p else s.p) = ((stN bs s).1.p : Int) := by
  unfold stN
  split
  · split <;> rfl
  · rfl

theorem cut_bytes (A : Option Addr) (n c q m : Nat) (bs : List Int) (h : q + m ≤ n) (hc : n ≤ c) (hl : bs.length = n) :
    ∃ A' c', (∀ W : World, (Instr.slice 30 (.slice A n c) (some (.int .i64 (q : Int))) (some (.int .i64 ((q : Int) + m))) none).run Tryd.prog W = .ok (.slice A' m c') W) ∧
      ∀ W : World, BRead W A bs → (convert 30 9 (.slice A' m c')).run Tryd.prog W = .ok (.string (strOfNums ((bs.drop q).take m))) W := by
  have hinf := info_u8
  obtain ⟨i0, hi, hzz⟩ := Option.map_eq_some_iff.1 hinf
  simp only [Prod.mk.injEq] at hzz
  subst hl
  refine ⟨if c = q then A else A.map (·.add (q * 1)), c - q, fun W => ?_, fun W hr => ?_⟩
  · have := cut_mid (P := Tryd.prog) 30 5 .i64 .i64 Tryd.underlying30 hi 1 hzz.2.1 A bs.length c q (q + m) (by omega) (by omega) (by omega) hc W
    rw [show ((q : Int) + m).toNat - (q : Int).toNat = m by omega, Int.toNat_natCast] at this
    exact this
  · have h1 := Kd.C_mid (lo := q) (hi := q + m) hr (by omega) (by omega) hc
    have h2 : (bs.take (q + m)).drop q = (bs.drop q).take m := by rw [List.drop_take, Nat.add_sub_cancel_left]
    rw [h2] at h1
    have hlen : ((bs.drop q).take m).length = m := by rw [List.length_take, List.length_drop]; omega
    have h3 := Kd.C_string (P := Tryd.prog) (c := c - q) Tryd.underlying30 Tryd.underlying5 Tryd.underlying9 h1
    rw [hlen] at h3
    exact h3

theorem BRead.grownR {w w1 : World} {base : Nat} {A : Option Addr} {c : Nat} {bs : List Int} {g : Nat} {cs : Array Value} (h : BOwn w base (.slice A bs.length c) bs) (hg : w.heap[g]? = some (.cells cs 144 (0, 0))) (k : w.grownBy w1 (some g)) : BRead w1 A bs := by
  obtain ⟨A', c', e, _, hr⟩ := (BOwn.grownR h hg k).form
  injection e with e1 _ _
  rw [e1]
  exact hr

set_option maxHeartbeats 4000000 in
set_option maxRecDepth 100000 in
theorem rText_bad (base g : Nat) (bs : List Int) (s : RS) (most : Nat) (w : World) (h : RdS w base g bs s) (hB : base ≤ w.heap.size) (hby : Bytes bs) (hp : s.p ≤ bs.length) (hbad : (stN bs s).1.code ≠ 0) :
    Calls Tryd.prog 49 #[.pointer (some ⟨g, 0, none⟩), .int .i64 most] w fun e w' => e = .returned (.string (stT bs most s).2) ∧ RdS w' base g bs (stT bs most s).1 ∧ w.grownBy w' (some g) := by
  have HC := Lib.hid (rnumber_s base g s.p bs s w h hB hby hp)
  have HBAD := Lib.hid hbad
  obtain ⟨a_, hg, ev, bv, hR, hO, he⟩ := h
  have z0 : w.cell? ⟨g, 0, none⟩ = some (.int .i64 s.p) := (blk_cell hR 0).trans rfl
  clear hR hO he hby hbad
  go_enter Tryd.func49, Tryd.ntmps49
  go_wp2_with fail
  refine HC.out.mono ?_
  rintro e w' ⟨rfl, h1, h2⟩
  have H1 := Lib.hid h1
  have H2 := Lib.hid h2
  obtain ⟨b_, h1⟩ := h1
  obtain ⟨b, bv, hR⟩ := h1.evBad HBAD.out
  have z1 : w'.cell? ⟨g, 1, none⟩ = some (.iface 121 (.pointer (some ⟨b, 0, none⟩))) := (blk_cell hR 1).trans rfl
  clear h1 h2 HC z0 hR
  go_wp2_with fail
  go_ret
  obtain ⟨b_, h1⟩ := H1.out
  rw [stT_bad HBAD.out]
  rw [stN_p] at h1
  exact ⟨rfl, ⟨b_, h1⟩, H2.out⟩

set_option maxHeartbeats 4000000 in
set_option maxRecDepth 100000 in
theorem rText_good (base g p : Nat) (a_ : Int) (bs : List Int) (most : Nat) (w : World) (h : Rd w base g p a_ 0 bs) (hB : base ≤ w.heap.size) (hby : Bytes bs) (hp : p ≤ bs.length) (hgood : (readN bs p).1 = 0) :
    Calls Tryd.prog 49 #[.pointer (some ⟨g, 0, none⟩), .int .i64 most] w fun e w' => e = .returned (.string (stT bs most ⟨p, 0⟩).2) ∧ RdS w' base g bs (stT bs most ⟨p, 0⟩).1 ∧ w.grownBy w' (some g) := by
  have HC := Lib.hid (rnumber_any base g p p a_ bs w h hB hby hp)
  have HG := Lib.hid hgood
  have hle := readN_le hp
  have hbd := readN_bound bs p
  obtain ⟨n, hn⟩ : ∃ n, n = (readN bs p).2.1 := ⟨_, rfl⟩
  obtain ⟨q, hq⟩ : ∃ q, q = (readN bs p).2.2 := ⟨_, rfl⟩
  rw [← hn] at hbd
  rw [← hq] at hle
  have HN := Lib.hid hn
  have HQ := Lib.hid hq
  obtain ⟨hg, ev, bv, hR, hO, he⟩ := h
  have z0 : w.cell? ⟨g, 0, none⟩ = some (.int .i64 p) := (blk_cell hR 0).trans rfl
  clear hR hO he hby hgood hn hq
  go_enter Tryd.func49, Tryd.ntmps49
  go_wp2_with fail
  refine HC.out.mono ?_
  rintro e w1 ⟨rfl, h1, h2⟩
  rw [HG.out, if_pos rfl, ← HQ.out] at h1
  rw [← HN.out]
  have H1 := Lib.hid h1
  have H2 := Lib.hid h2
  obtain ⟨A, c, hR, hO, hr⟩ := h1.evGood rfl
  have HR := Lib.hid hR
  have HO := Lib.hid hO
  have HD := Lib.hid hr
  have hlen := hr.len
  have z0 : w1.cell? ⟨g, 0, none⟩ = some (.int .i64 q) := (blk_cell hR 0).trans rfl
  have z1 : w1.cell? ⟨g, 1, none⟩ = some .nilIface := (blk_cell hR 1).trans rfl
  have z2 : w1.cell? ⟨g, 2, none⟩ = some (.slice A bs.length c) := (blk_cell hR 2).trans rfl
  have f0 := blk_frozen hR 0
  have hbw := h2.size
  clear h1 h2 HC hR hO hr
  by_cases hm : most < n
  · go_wp2_with fail
    refine (spoil_rd base g _ p _ 2 bs w1 H1.out (by omega) (by decide)).mono ?_
    rintro e w2 ⟨rfl, h3, h4⟩
    have H3 := Lib.hid h3
    have H4 := Lib.hid h4
    clear h3 h4 z0 z1 z2 f0
    go_wp2_with fail
    go_ret
    have he : stT bs most ⟨p, 0⟩ = (⟨p, 2⟩, ByteArray.empty) := by unfold stT; rw [if_pos rfl, if_pos HG.out, if_pos (by rw [← HN.out]; exact hm)]
    rw [he]
    exact ⟨rfl, ⟨p, H3.out⟩, grown_trans H2.out H4.out⟩
  · by_cases hl : bs.length - q < n
    · have hl' : (bs.length : Int) - q < n := by omega
      go_wp2_with fail
      refine (left_any g q .nilIface A bs.length c w1 HR.out (by omega) (by omega) hlen).mono ?_
      rintro e w2 ⟨rfl, nq, rfl⟩
      have H1' : Hid (Rd (w1.drewN nq) base g q p 0 bs) := by
        obtain ⟨x1, ev, bv, x2, x3, x4⟩ := H1.out
        refine ⟨x1, ev, bv, x2, x3.below (pw_below_drewN (Below.refl _ _) _), ?_⟩
        rcases x4 with x4 | ⟨x5, x6⟩
        · exact .inl x4
        · exact .inr ⟨x5, x6.below (pw_below_drewN (Below.refl _ _) _)⟩
      have H2' := Lib.hid (grown_trans H2.out (grown_drewN w1 nq (some g)))
      generalize w1.drewN nq = w3 at H1' H2' ⊢
      have hbw3 := H2'.out.size
      go_wp2_with fail
      refine (spoil_rd base g _ p _ 3 bs w3 H1'.out (by omega) (by decide)).mono ?_
      rintro e w2 ⟨rfl, h3, h4⟩
      have H3 := Lib.hid h3
      have H4 := Lib.hid h4
      clear h3 h4 z0 z1 z2 f0
      go_wp2_with fail
      go_ret
      have he : stT bs most ⟨p, 0⟩ = (⟨p, 3⟩, ByteArray.empty) := by unfold stT; rw [if_pos rfl, if_pos HG.out, if_neg (by rw [← HN.out]; exact hm), if_pos (by rw [← HN.out, ← HQ.out]; exact hl)]
      rw [he]
      exact ⟨rfl, ⟨p, H3.out⟩, grown_trans H2'.out H4.out⟩
    · have hl' : ¬ (bs.length : Int) - q < n := by omega
      obtain ⟨A', c', hsl, hcv⟩ := cut_bytes A bs.length c q n bs (by omega) (by obtain ⟨_, _, e, h, _⟩ := HO.out.form; injection e with _ _ e; omega) rfl
      have HCV := Lib.hid hcv
      clear hcv
      have h63 : (q : Int) + n ≤ 9223372036854775807 := by omega
      go_wp2_with fail
      refine (left_any g q .nilIface A bs.length c w1 HR.out (by omega) (by omega) hlen).mono ?_
      rintro e w2 ⟨rfl, nq, rfl⟩
      go_wp2_with fail
      have HRq : Hid (RdAt (w1.drewN nq) g q .nilIface (.slice A bs.length c)) := HR
      have HX3 : Hid (RdAt ((w1.drewN nq).setCell ⟨g, 0, none⟩ (.int .i64 (q + n))) g (q + n) .nilIface (.slice A bs.length c)) := blk_set (w := w1.drewN nq) HRq.out 0 (.int .i64 ((q : Int) + n))
      have HW3 := Lib.hid (grown_trans (grown_drewN w1 nq (some g)) (grown_set (w1.drewN nq) g 0 (.int .i64 (q + n))))
      have HO3 := Lib.hid (HO.out.grownR HR.out HW3.out)
      have HD3 := Lib.hid (BRead.grownR HO.out HR.out HW3.out)
      have HB3 := Lib.hid (grown_trans H2.out HW3.out)
      generalize (w1.drewN nq).setCell ⟨g, 0, none⟩ (.int .i64 (q + n)) = w3 at HX3 HW3 HO3 HD3 HB3 ⊢
      clear z0 z1 z2 f0
      have z0 : w3.cell? ⟨g, 0, none⟩ = some (.int .i64 (q + n)) := (blk_cell HX3.out 0).trans rfl
      have z2 : w3.cell? ⟨g, 2, none⟩ = some (.slice A bs.length c) := (blk_cell HX3.out 2).trans rfl
      have hcv : ∀ nq, (convert 30 9 (.slice A' n c')).run Tryd.prog (w3.drewN nq) = .ok (.string (strOfNums ((bs.drop q).take n))) (w3.drewN nq) := fun nq => HCV.out (w3.drewN nq) (HD3.out.below (pw_below_drewN (Below.refl _ _) _))
      go_quiet (fail)
      go_wp2_with fail
      have he : stT bs most ⟨p, 0⟩ = (⟨q + n, 0⟩, strOfNums ((bs.drop q).take n)) := by
        unfold stT
        rw [if_pos rfl, if_pos HG.out, if_neg (by rw [← HN.out]; exact hm), if_neg (by rw [← HN.out, ← HQ.out]; exact hl), ← HN.out, ← HQ.out]
      have HE := Lib.hid he
      have HX4 : Hid (RdS (w3.drewN nq) base g bs ⟨q + n, 0⟩) := ⟨p, hg, _, _, HX3.out, HO3.out.below (pw_below_drewN (Below.refl _ _) _), .inl ⟨rfl, rfl⟩⟩
      have HW4 := Lib.hid (grown_trans HB3.out (grown_drewN w3 nq (some g)))
      clear he hcv hsl
      go_ret
      rw [HE.out]
      exact ⟨rfl, HX4.out, HW4.out⟩

theorem rText_s (base g : Nat) (bs : List Int) (s : RS) (most : Nat) (w : World) (h : RdS w base g bs s) (hB : base ≤ w.heap.size) (hby : Bytes bs) (hp : s.p ≤ bs.length) :
    Calls Tryd.prog 49 #[.pointer (some ⟨g, 0, none⟩), .int .i64 most] w fun e w' => e = .returned (.string (stT bs most s).2) ∧ RdS w' base g bs (stT bs most s).1 ∧ w.grownBy w' (some g) := by
  by_cases hc : (stN bs s).1.code = 0
  · obtain ⟨p, code⟩ := s
    have h0 : code = 0 ∧ (readN bs p).1 = 0 := by
      unfold stN at hc
      split at hc
      · rename_i h1
        split at hc
        · rename_i h2; exact ⟨h1, h2⟩
        · rename_i h2; exact absurd hc h2
      · rename_i h1; exact absurd hc h1
    obtain ⟨rfl, hg⟩ := h0
    obtain ⟨a_, h⟩ := h
    exact rText_good base g p a_ bs most w h hB hby hp hg
  · exact rText_bad base g bs s most w h hB hby hp hc

end Go.Proofs.YtlgippliihgcjaaDoor.C
