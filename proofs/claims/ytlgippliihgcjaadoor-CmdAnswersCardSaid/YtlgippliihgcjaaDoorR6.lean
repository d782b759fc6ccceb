/- coil.Nums of a reader. -/
import Derived.Test.YtlgippliihgcjaaDoorR5
namespace Go.Proofs.YtlgippliihgcjaaDoor.C
set_option linter.unusedVariables false
set_option linter.unusedSimpArgs false
open Go.RowKit Go.Proofs.YtlgippliihgcjaaDoorW.PrintWords

theorem info_int : (Tryd.prog.info? 3).map (fun i => (i.zero, i.size, i.bytes)) = some (some (.int .i64 0), 1, 8) := by kernel_rfl
/-- A slice of numbers of the call's own. -/
abbrev IOwn (w : World) (base : Nat) (v : Value) (l : List Int) : Prop := w.ownsRow base 3 1 v l.length (nums .i64 l)
theorem IOwn.nil (w : World) (base : Nat) : IOwn w base (.slice none 0 0) [] := own_nil w base _ 1
theorem IOwn.below {w w1 : World} {base : Nat} {v : Value} {l : List Int} (h : IOwn w base v l) (hb : Below w.heap.size w w1) : IOwn w1 base v l := pw_own_below h hb
theorem IOwn.lower {w : World} {base base' : Nat} {v : Value} {l : List Int} (h : IOwn w base v l) (hb : base' ≤ base) : IOwn w base' v l := own_weaken h hb
theorem IOwn.grownR {w w1 : World} {base : Nat} {v : Value} {bs : List Int} {g : Nat} {cs : Array Value} (h : IOwn w base v bs) (hg : w.heap[g]? = some (.cells cs 144 (0, 0))) (k : w.grownBy w1 (some g)) : IOwn w1 base v bs :=
  own_other h k (.inr (fun e => own_ne h hg (by decide) e.symm))
theorem IOwn.R {w : World} {base : Nat} {v : Value} {l : List Int} (h : IOwn w base v l) : (Kd.int .i64).R 3 w base (fun _ => True) v l := Kd.R_of_own (enc := Value.int .i64) h (fun _ _ => trivial)
theorem IOwn.form {w : World} {base : Nat} {v : Value} {l : List Int} (h : IOwn w base v l) : ∃ A c, v = .slice A l.length c ∧ l.length ≤ c ∧ (Kd.int .i64).C w A l.length l := by
  obtain ⟨A, c, e, hl, hc⟩ := Kd.R_reads h.R
  exact ⟨A, c, e, hl, hc⟩

/-- So many numbers at a byte. -/
def rNs (bs : List Int) : Nat → Nat → Int × List Int × Nat
  | 0, p => (0, [], p)
  | m + 1, p => if (readN bs p).1 = 0 then ((rNs bs m (readN bs p).2.2).1, ((readN bs p).2.1 : Int) :: (rNs bs m (readN bs p).2.2).2.1, (rNs bs m (readN bs p).2.2).2.2) else ((readN bs p).1, [], p)
/-- A row more. -/
def stNs (bs : List Int) (most : Nat) (s : RS) : RS × List Int :=
  if s.code = 0 then
    if (readN bs s.p).1 = 0 then
      if most < (readN bs s.p).2.1 then (⟨s.p, 2⟩, [])
      else if (rNs bs (readN bs s.p).2.1 (readN bs s.p).2.2).1 = 0 then (⟨(rNs bs (readN bs s.p).2.1 (readN bs s.p).2.2).2.2, 0⟩, (rNs bs (readN bs s.p).2.1 (readN bs s.p).2.2).2.1)
      else (⟨s.p, (rNs bs (readN bs s.p).2.1 (readN bs s.p).2.2).1⟩, [])
    else (⟨s.p, (readN bs s.p).1⟩, [])
  else (s, [])
theorem stNs_bad {bs : List Int} {most : Nat} {s : RS} (h : (stN bs s).1.code ≠ 0) : stNs bs most s = ((stN bs s).1, []) := by
  unfold stN at h ⊢
  unfold stNs
  split at h
  · rename_i hc
    split at h
    · rename_i h0; exact absurd rfl h
    · rename_i h0; rw [if_pos hc, if_neg h0, if_pos hc, if_neg h0]
  · rename_i hc; rw [if_neg hc, if_neg hc]

set_option maxHeartbeats 4000000 in
set_option maxRecDepth 100000 in
theorem rNums_bad (base g : Nat) (bs : List Int) (s : RS) (most : Nat) (w : World) (h : RdS w base g bs s) (hB : base ≤ w.heap.size) (hby : Bytes bs) (hp : s.p ≤ bs.length) (hbad : (stN bs s).1.code ≠ 0) :
    Calls Tryd.prog 57 #[.pointer (some ⟨g, 0, none⟩), .int .i64 most] w fun e w' => (∃ v, e = .returned v ∧ IOwn w' w.heap.size v (stNs bs most s).2) ∧ RdS w' base g bs (stNs bs most s).1 ∧ w.grownBy w' (some g) := by
  have HC := Lib.hid (rnumber_s base g s.p bs s w h hB hby hp)
  have HBAD := Lib.hid hbad
  obtain ⟨a_, hg, ev, bv, hR, hO, he⟩ := h
  have z0 : w.cell? ⟨g, 0, none⟩ = some (.int .i64 s.p) := (blk_cell hR 0).trans rfl
  clear hR hO he hby hbad
  go_enter Tryd.func57, Tryd.ntmps57
  go_wp2_with fail
  refine HC.out.mono ?_
  rintro e w' ⟨rfl, h1, h2⟩
  have H1 := Lib.hid h1
  have H2 := Lib.hid h2
  obtain ⟨b_, h1⟩ := h1
  obtain ⟨b, bv, hR⟩ := h1.evBad HBAD.out
  have z1 : w'.cell? ⟨g, 1, none⟩ = some (.iface 121 (.pointer (some ⟨b, 0, none⟩))) := (blk_cell hR 1).trans rfl
  clear h1 h2 HC z0 hR
  generalize (stN bs s).2 = nn
  by_cases hnn : 0 < nn
  all_goals
    go_wp2_with fail
    go_loop [7, 8] (fun o i => o = .slice none 0 0 ∧ i = .int .i64 0) (fun _ _ => 0)
    case atStart => exact ⟨rfl, rfl⟩
    case round =>
      obtain ⟨rfl, rfl⟩ := hrel
      go_wp2_with fail
      go_ret
      obtain ⟨b_, h1⟩ := H1.out
      rw [stNs_bad HBAD.out]
      rw [stN_p] at h1
      exact ⟨⟨_, rfl, IOwn.nil _ _⟩, ⟨b_, h1⟩, H2.out⟩

set_option maxHeartbeats 4000000 in
set_option maxRecDepth 100000 in
theorem rNums_much (base g p : Nat) (a_ : Int) (bs : List Int) (most : Nat) (w : World) (h : Rd w base g p a_ 0 bs) (hB : base ≤ w.heap.size) (hby : Bytes bs) (hp : p ≤ bs.length) (hgood : (readN bs p).1 = 0) (hm : most < (readN bs p).2.1) :
    Calls Tryd.prog 57 #[.pointer (some ⟨g, 0, none⟩), .int .i64 most] w fun e w' => (∃ v, e = .returned v ∧ IOwn w' w.heap.size v (stNs bs most ⟨p, 0⟩).2) ∧ RdS w' base g bs (stNs bs most ⟨p, 0⟩).1 ∧ w.grownBy w' (some g) := by
  have HC := Lib.hid (rnumber_any base g p p a_ bs w h hB hby hp)
  have HG := Lib.hid hgood
  have HM := Lib.hid hm
  obtain ⟨n, hn⟩ : ∃ n, n = (readN bs p).2.1 := ⟨_, rfl⟩
  rw [← hn] at hm
  have HN := Lib.hid hn
  obtain ⟨hg, ev, bv, hR, hO, he⟩ := h
  have z0 : w.cell? ⟨g, 0, none⟩ = some (.int .i64 p) := (blk_cell hR 0).trans rfl
  have hn0 : 0 < n := by omega
  clear hR hO he hby hgood hn
  go_enter Tryd.func57, Tryd.ntmps57
  go_wp2_with fail
  refine HC.out.mono ?_
  rintro e w1 ⟨rfl, h1, h2⟩
  rw [HG.out, if_pos rfl] at h1
  rw [← HN.out]
  have H1 := Lib.hid h1
  have H2 := Lib.hid h2
  obtain ⟨A, c, hR, hO, hr⟩ := h1.evGood rfl
  have z1 : w1.cell? ⟨g, 1, none⟩ = some .nilIface := (blk_cell hR 1).trans rfl
  have hbw := h2.size
  clear h1 h2 HC hR hO hr z0
  go_wp2_with fail
  refine (spoil_rd base g _ p _ 2 bs w1 H1.out (by omega) (by decide)).mono ?_
  rintro e w2 ⟨rfl, h3, h4⟩
  have H3 := Lib.hid h3
  have H4 := Lib.hid h4
  obtain ⟨b, bv, hR⟩ := h3.evBad (by decide)
  have z1b : w2.cell? ⟨g, 1, none⟩ = some (.iface 121 (.pointer (some ⟨b, 0, none⟩))) := (blk_cell hR 1).trans rfl
  clear h3 h4 z1 hR
  go_wp2_with fail
  go_loop [7, 8] (fun o i => o = .slice none 0 0 ∧ i = .int .i64 0) (fun _ _ => 0)
  case atStart => exact ⟨rfl, rfl⟩
  case round =>
    obtain ⟨rfl, rfl⟩ := hrel
    go_wp2_with fail
    go_ret
    have he : stNs bs most ⟨p, 0⟩ = (⟨p, 2⟩, []) := by unfold stNs; rw [if_pos rfl, if_pos HG.out, if_pos HM.out]
    rw [he]
    exact ⟨⟨_, rfl, IOwn.nil _ _⟩, ⟨p, H3.out⟩, grown_trans H2.out H4.out⟩

theorem grown_then {a b c : World} {g : Nat} (h : a.grownBy b (some g)) (k : Below a.heap.size b c) : a.grownBy c (some g) :=
  ⟨k.os.trans h.os, k.tape.trans h.tape, k.output.trans h.output, Nat.le_trans h.size k.size, fun i hi hr => (k.block i hi).trans (h.block i hi hr)⟩
theorem Rd.append {w w1 : World} {base g : Nat} {p a_ code : Int} {bs : List Int} {b0 : Nat} {v : Value} {l : List Int} (h : Rd w base g p a_ code bs) (hv : IOwn w b0 v l) (hg : w.grownBy w1 v.ownBlock) : Rd w1 base g p a_ code bs := by
  obtain ⟨x1, ev, bv, x2, x3, x4⟩ := h
  refine ⟨x1, ev, bv, blk_grown x2 hg (own_ne hv x2 (by decide)), own_other x3 hg (own_type_ne x3 hv (by decide)), ?_⟩
  rcases x4 with x4 | ⟨x5, b, e, x6, x7⟩
  · exact .inl x4
  · exact .inr ⟨x5, b, e, x6, blk_grown x7 hg (own_ne hv x7 (by decide))⟩

/-- Where a row's reading is: k numbers are read. -/
def NsAt (bs : List Int) (n q k pk : Nat) (pre : List Int) : Prop :=
  rNs bs n q = ((rNs bs (n - k) pk).1, pre ++ (rNs bs (n - k) pk).2.1, (rNs bs (n - k) pk).2.2) ∧ pre.length = k ∧ pk ≤ bs.length
theorem NsAt.start {bs : List Int} {n q : Nat} (h : q ≤ bs.length) : NsAt bs n q 0 q [] := ⟨rfl, rfl, h⟩
theorem NsAt.next {bs : List Int} {n q k pk : Nat} {pre : List Int} (h : NsAt bs n q k pk pre) (hk : k < n) (h0 : (readN bs pk).1 = 0) : NsAt bs n q (k + 1) (readN bs pk).2.2 (pre ++ [((readN bs pk).2.1 : Int)]) := by
  obtain ⟨h1, h2, h3⟩ := h
  obtain ⟨m, hm⟩ : ∃ m, n - k = m + 1 := ⟨n - k - 1, by omega⟩
  have hm' : n - (k + 1) = m := by omega
  rw [hm] at h1
  simp only [rNs, if_pos h0] at h1
  refine ⟨by rw [hm', h1]; simp, by simp [h2], readN_le h3⟩
theorem NsAt.fail {bs : List Int} {n q k pk : Nat} {pre : List Int} (h : NsAt bs n q k pk pre) (hk : k < n) (h0 : (readN bs pk).1 ≠ 0) : (rNs bs n q).1 = (readN bs pk).1 := by
  obtain ⟨h1, h2, h3⟩ := h
  obtain ⟨m, hm⟩ : ∃ m, n - k = m + 1 := ⟨n - k - 1, by omega⟩
  rw [hm] at h1
  simp only [rNs, if_neg h0] at h1
  rw [h1]
theorem NsAt.done {bs : List Int} {n q pk : Nat} {pre : List Int} (h : NsAt bs n q n pk pre) : rNs bs n q = (0, pre, pk) := by
  obtain ⟨h1, h2, h3⟩ := h
  rw [Nat.sub_self] at h1
  simpa [rNs] using h1

set_option maxHeartbeats 4000000 in
set_option maxRecDepth 100000 in
theorem rNums_good (base g p : Nat) (a_ : Int) (bs : List Int) (most : Nat) (w : World) (h : Rd w base g p a_ 0 bs) (hB : base ≤ w.heap.size) (hby : Bytes bs) (hp : p ≤ bs.length) (hgood : (readN bs p).1 = 0) (hm : (readN bs p).2.1 ≤ most) (hmost : most ≤ 1000) :
    Calls Tryd.prog 57 #[.pointer (some ⟨g, 0, none⟩), .int .i64 most] w fun e w' => (∃ v, e = .returned v ∧ IOwn w' w.heap.size v (stNs bs most ⟨p, 0⟩).2) ∧ RdS w' base g bs (stNs bs most ⟨p, 0⟩).1 ∧ w.grownBy w' (some g) := by
  have HC := Lib.hid (rnumber_any base g p p a_ bs w h hB hby hp)
  have HG := Lib.hid hgood
  have HM := Lib.hid hm
  have HY := Lib.hid hby
  have hle := readN_le hp
  obtain ⟨n, hn⟩ : ∃ n, n = (readN bs p).2.1 := ⟨_, rfl⟩
  obtain ⟨q, hq⟩ : ∃ q, q = (readN bs p).2.2 := ⟨_, rfl⟩
  rw [← hn] at hm
  rw [← hq] at hle
  have hmd : decide (most < n) = false := decide_eq_false (by omega)
  have HN := Lib.hid hn
  have HQ := Lib.hid hq
  obtain ⟨hg, ev, bv, hR, hO, he⟩ := h
  have z0 : w.cell? ⟨g, 0, none⟩ = some (.int .i64 p) := (blk_cell hR 0).trans rfl
  clear hR hO he hby hgood hn hq
  go_enter Tryd.func57, Tryd.ntmps57
  go_wp2_with fail
  refine HC.out.mono ?_
  rintro e w1 ⟨rfl, h1, h2⟩
  rw [HG.out, if_pos rfl, ← HQ.out] at h1
  rw [← HN.out]
  have H1 := Lib.hid h1
  have H2 := Lib.hid h2
  obtain ⟨A, c, hR, hO, hr⟩ := h1.evGood rfl
  have z1 : w1.cell? ⟨g, 1, none⟩ = some .nilIface := (blk_cell hR 1).trans rfl
  have hbw := h2.size
  clear h1 h2 HC hR hO hr z0
  go_wp2_with fail
  clear z1
  go_loopw [7, 8] (fun o i wr => ∃ k : Nat, k ≤ n ∧ i = .int .i64 k ∧ Hid (w1.grownBy wr (some g)) ∧
      ((∃ pk pre, Hid (NsAt bs n q k pk pre) ∧ Hid (Rd wr base g pk p 0 bs) ∧ Hid (IOwn wr w1.heap.size o pre)) ∨ Hid ((rNs bs n q).1 ≠ 0 ∧ Rd wr base g p p (rNs bs n q).1 bs))) (fun _ i _ => n - (intOf i).toNat)
  case atStart => exact ⟨0, by omega, rfl, Lib.hid (grown_refl _ _), .inl ⟨q, [], Lib.hid (NsAt.start hle), H1, Lib.hid (IOwn.nil _ _)⟩⟩
  case round =>
    obtain ⟨k, hk, rfl, HW, hor⟩ := hrel
    have hbw1 := HW.out.size
    rcases hor with ⟨pk, pre, HNS, HRD, HOW⟩ | HBAD
    · obtain ⟨A, c, hR, hO, hr⟩ := HRD.out.evGood rfl
      have HR := Lib.hid hR
      have z1 : wr.cell? ⟨g, 1, none⟩ = some .nilIface := (blk_cell hR 1).trans rfl
      clear hR hO hr
      by_cases hlt : k < n
      · go_wp2_with fail
        refine (rnumber_any base g pk p p bs wr HRD.out (by omega) HY.out HNS.out.2.2).mono ?_
        rintro e w2 ⟨rfl, h3, h4⟩
        have H3 := Lib.hid h3
        have H4 := Lib.hid h4
        have HO2 := Lib.hid (HOW.out.grownR HR.out h4)
        have hbw2 := h4.size
        have hlp : pre.length = k := HNS.out.2.1
        have hl8 : (pre.length + 1) * 8 ≤ 140737488355328 := by omega
        have HL := Lib.hid hl8
        clear h3 h4 z1 hlp hl8
        go_wp2_with (at_builtin; refine print_append_num (w0 := w2) w1.heap.size rfl (.tmp 47) (.tmp 51) 53 3 .i64 8 rfl Tryd.underlying53 info_int (by omega) _ pre _ rfl rfl HO2.out (Below.refl _ _) (by omega) HL.out ?_; intro v1 w3 hown hb1 hg1 hat1; have HO := Lib.hid hown; have HGR := Lib.hid hg1; have HBW := Lib.hid hb1; clear hown hb1 hg1 hat1)
        go_roundw
        case rel =>
          refine ⟨k + 1, by omega, by go_num, Lib.hid (grown_then (grown_trans HW.out H4.out) HBW.out), ?_⟩
          have h3 := H3.out.append HO2.out HGR.out
          by_cases h0 : (readN bs pk).1 = 0
          · rw [h0, if_pos rfl] at h3
            exact .inl ⟨_, _, Lib.hid (HNS.out.next hlt h0), Lib.hid h3, HO⟩
          · rw [if_neg h0] at h3
            refine .inr (Lib.hid ?_)
            rw [HNS.out.fail hlt h0]
            exact ⟨h0, h3⟩
        case measure => simp [intOf]; omega
      · obtain rfl : k = n := by omega
        go_wp2_with fail
        go_ret
        have h1 := HNS.out.done
        have he : stNs bs most ⟨p, 0⟩ = (⟨pk, 0⟩, pre) := by
          unfold stNs
          rw [if_pos rfl, if_pos HG.out, if_neg (Nat.not_lt.2 HM.out), ← HN.out, ← HQ.out, h1, if_pos rfl]
        rw [he]
        exact ⟨⟨_, rfl, HOW.out.lower hbw⟩, ⟨p, HRD.out⟩, grown_trans H2.out HW.out⟩
    · obtain ⟨b, bv, hR⟩ := HBAD.out.2.evBad HBAD.out.1
      have z1 : wr.cell? ⟨g, 1, none⟩ = some (.iface 121 (.pointer (some ⟨b, 0, none⟩))) := (blk_cell hR 1).trans rfl
      clear hR
      have he : stNs bs most ⟨p, 0⟩ = (⟨p, (rNs bs n q).1⟩, []) := by
        unfold stNs
        rw [if_pos rfl, if_pos HG.out, if_neg (Nat.not_lt.2 HM.out), ← HN.out, ← HQ.out, if_neg HBAD.out.1]
      have HE := Lib.hid he
      clear he
      by_cases hlt : k < n
      all_goals
        go_wp2_with fail
        go_ret
        rw [HE.out]
        exact ⟨⟨_, rfl, IOwn.nil _ _⟩, ⟨p, HBAD.out.2⟩, grown_trans H2.out HW.out⟩

theorem rNums_s (base g : Nat) (bs : List Int) (s : RS) (most : Nat) (w : World) (h : RdS w base g bs s) (hB : base ≤ w.heap.size) (hby : Bytes bs) (hp : s.p ≤ bs.length) (hmost : most ≤ 1000) :
    Calls Tryd.prog 57 #[.pointer (some ⟨g, 0, none⟩), .int .i64 most] w fun e w' => (∃ v, e = .returned v ∧ IOwn w' w.heap.size v (stNs bs most s).2) ∧ RdS w' base g bs (stNs bs most s).1 ∧ w.grownBy w' (some g) := by
  by_cases hc : (stN bs s).1.code = 0
  · obtain ⟨p, code⟩ := s
    have h0 : code = 0 ∧ (readN bs p).1 = 0 := by
      unfold stN at hc
      split at hc
      · rename_i h1
        split at hc
        · rename_i h2; exact ⟨h1, h2⟩
        · rename_i h2; exact absurd hc h2
      · rename_i h1; exact absurd hc h1
    obtain ⟨rfl, hg⟩ := h0
    obtain ⟨a_, h⟩ := h
    by_cases hm : most < (readN bs p).2.1
    · exact rNums_much base g p a_ bs most w h hB hby hp hg hm
    · exact rNums_good base g p a_ bs most w h hB hby hp hg (by omega) hmost
  · exact rNums_bad base g bs s most w h hB hby hp hc

end Go.Proofs.YtlgippliihgcjaaDoor.C
