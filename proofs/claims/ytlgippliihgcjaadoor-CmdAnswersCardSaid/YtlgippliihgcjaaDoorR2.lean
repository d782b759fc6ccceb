/- coil.Of, At, Left, number. -/
import Derived.Test.YtlgippliihgcjaaDoorR1
import Derived.Deep.QuietTactic
import Derived.BigQuiet
import Derived.WalkSpells
namespace Go.Proofs.YtlgippliihgcjaaDoor.C
set_option linter.unusedVariables false
set_option linter.unusedSimpArgs false
open Go.RowKit Go.Proofs.YtlgippliihgcjaaDoorW.PrintWords

set_option maxHeartbeats 1000000 in
set_option maxRecDepth 100000 in
theorem of_any (A : Option Addr) (c : Nat) (bs : List Int) (w : World) (h : BRead w A bs) (hl : bs.length ≤ 140737488355328) :
    Calls Tryd.prog 47 #[.slice A bs.length c] w fun e w' => ∃ g, e = .returned (.pointer (some ⟨g, 0, none⟩)) ∧ Rd w' w.heap.size g 0 0 0 bs ∧ Below w.heap.size w w' := by
  have hcl := Lib.hid (clone_any A c bs w h hl)
  clear h
  go_enter Tryd.func47, Tryd.ntmps47
  go_wp2_with fail
  refine hcl.out.mono ?_
  rintro e w1 ⟨v, rfl, ho, hb⟩
  obtain ⟨A1, c1, rfl, _, _⟩ := ho.form
  have HO := Lib.hid ho
  have HB := Lib.hid hb
  clear ho hb hcl
  go_wp2_with fail
  go_ret
  exact ⟨_, rfl, ⟨HB.out.size, _, _, heap_alloc_new _ _, HO.out.below (below_alloc (Below.refl _ _) _), .inl ⟨rfl, rfl⟩⟩, HB.out.alloc HB.out.size _⟩

set_option maxHeartbeats 1000000 in
set_option maxRecDepth 100000 in
theorem at_any (g : Nat) (p : Int) (ev bv : Value) (w : World) (h : RdAt w g p ev bv) :
    Calls Tryd.prog 51 #[.pointer (some ⟨g, 0, none⟩)] w fun e w' => e = .returned (.int .i64 p) ∧ w = w' := by
  have z0 : w.cell? ⟨g, 0, none⟩ = some (.int .i64 p) := (blk_cell h 0).trans rfl
  clear h
  go_enter Tryd.func51, Tryd.ntmps51
  go_wp2
  go_ret
  exact ⟨rfl, rfl⟩

set_option maxHeartbeats 1000000 in
set_option maxRecDepth 100000 in
theorem left_any (g : Nat) (p : Int) (ev : Value) (A : Option Addr) (n c : Nat) (w : World) (h : RdAt w g p ev (.slice A n c)) (h0 : 0 ≤ p) (h1 : p ≤ n) (hn : n ≤ 9223372036854775807) :
    Calls Tryd.prog 77 #[.pointer (some ⟨g, 0, none⟩)] w fun e w' => e = .returned (.int .i64 (n - p)) ∧ ∃ q, w' = w.drewN q := by
  have z0 : w.cell? ⟨g, 0, none⟩ = some (.int .i64 p) := (blk_cell h 0).trans rfl
  have z2 : w.cell? ⟨g, 2, none⟩ = some (.slice A n c) := (blk_cell h 2).trans rfl
  clear h
  go_enter Tryd.func77, Tryd.ntmps77
  go_wp2
  go_quiet (fail)
  go_wp2
  go_ret
  exact ⟨rfl, _, rfl⟩

/-- A number at a byte: why not (0: it is one), the number, the byte behind it. -/
def rn (bs : List Int) : Nat → Nat → Nat → Nat → Int × Nat × Nat
  | 0, _, p, _ => (2, 0, p)
  | f + 1, k, p, acc =>
    match bs[p]? with
    | none => (3, 0, p)
    | some c =>
      if 128 ≤ c then rn bs f (k + 1) (p + 1) (acc + (c.toNat % 128) * 128 ^ k)
      else if c = 0 ∧ 0 < k then (2, 0, p) else (0, acc + (c.toNat % 128) * 128 ^ k, p + 1)
def readN (bs : List Int) (p : Nat) : Int × Nat × Nat := rn bs 9 0 p 0

theorem and_127 {c : Int} (h0 : 0 ≤ c) (h1 : c < 256) : bits .and .i64 c 127 = c % 128 :=
  bits_mask .i64 8 (by decide) (fun n h h' => by rw [IntKind.wrap_i64]; omega) 7 (by decide) c h0 h1
theorem or_acc {acc k x : Nat} (ha : acc < 128 ^ k) (hx : x < 128) (hk : k < 9) : bits .or .i64 (acc : Int) ((x * 128 ^ k : Nat) : Int) = ((acc + x * 128 ^ k : Nat) : Int) := by
  have hp : (128 : Nat) ^ k = 2 ^ (7 * k) := by rw [show (128 : Nat) = 2 ^ 7 from rfl, ← Nat.pow_mul]
  have hb : x * 128 ^ k < 2 ^ 63 := by
    have h1 : x * 128 ^ k < 128 * 128 ^ k := Nat.mul_lt_mul_of_pos_right hx (Nat.pow_pos (by omega))
    have h2 : 128 * 128 ^ k ≤ 128 ^ 9 := by rw [Nat.mul_comm, ← Nat.pow_succ]; exact Nat.pow_le_pow_right (by omega) (by omega)
    have h3 : (128 : Nat) ^ 9 = 2 ^ 63 := by decide
    omega
  have ha' : acc < 2 ^ 63 := by
    have h2 : 128 ^ k ≤ 128 ^ 9 := Nat.pow_le_pow_right (by omega) (by omega)
    have h3 : (128 : Nat) ^ 9 = 2 ^ 63 := by decide
    omega
  rw [(bits_nat .i64 63 (by decide) (fun n h h' => by rw [IntKind.wrap_i64]; omega) acc _ ha' hb).2]
  rw [hp] at ha ⊢
  rw [Nat.or_comm, Nat.mul_comm, ← Nat.two_pow_add_eq_or_of_lt ha x, Nat.add_comm]
theorem shl_7 {k : Nat} {c : Int} (h0 : 0 ≤ c) (hk : k < 9) : wrap64 (c % 128 * 2 ^ (7 * k)) = ((c.toNat % 128 * 128 ^ k : Nat) : Int) := by
  have hp : (128 : Nat) ^ k = 2 ^ (7 * k) := by rw [show (128 : Nat) = 2 ^ 7 from rfl, ← Nat.pow_mul]
  obtain ⟨n, rfl⟩ := Int.eq_ofNat_of_zero_le h0
  have hb : n % 128 * 128 ^ k < 2 ^ 63 := by
    have hx : n % 128 < 128 := by omega
    have h1 : n % 128 * 128 ^ k < 128 * 128 ^ k := Nat.mul_lt_mul_of_pos_right hx (Nat.pow_pos (by omega))
    have h2 : 128 * 128 ^ k ≤ 128 ^ 9 := by rw [Nat.mul_comm, ← Nat.pow_succ]; exact Nat.pow_le_pow_right (by omega) (by omega)
    have h3 : (128 : Nat) ^ 9 = 2 ^ 63 := by decide
    omega
  have he : ((n : Int) % 128 * 2 ^ (7 * k)) = ((n % 128 * 128 ^ k : Nat) : Int) := by rw [hp]; push_cast; rfl
  rw [he]
  unfold wrap64
  simp only [Int.toNat_natCast]
  omega

theorem rn_end {bs : List Int} {f k p acc : Nat} (h : bs[p]? = none) : rn bs (f + 1) k p acc = (3, 0, p) := by simp [rn, h]
theorem rn_more {bs : List Int} {f k p acc : Nat} {c : Int} (h : bs[p]? = some c) (hc : 128 ≤ c) : rn bs (f + 1) k p acc = rn bs f (k + 1) (p + 1) (acc + (c.toNat % 128) * 128 ^ k) := by simp [rn, h, hc]
theorem rn_bad {bs : List Int} {f k p acc : Nat} {c : Int} (h : bs[p]? = some c) (hc : c = 0) (hk : 0 < k) : rn bs (f + 1) k p acc = (2, 0, p) := by subst hc; simp [rn, h, hk]
theorem rn_last {bs : List Int} {f k p acc : Nat} {c : Int} (h : bs[p]? = some c) (hc : ¬ 128 ≤ c) (hk : ¬ (c = 0 ∧ 0 < k)) : rn bs (f + 1) k p acc = (0, acc + (c.toNat % 128) * 128 ^ k, p + 1) := by simp only [rn, h]; rw [if_neg hc, if_neg hk]
theorem acc_lt {acc k : Nat} {c : Int} (h : acc < 128 ^ k) : acc + (c.toNat % 128) * 128 ^ k < 128 ^ (k + 1) := by
  have hx : c.toNat % 128 ≤ 127 := by omega
  have h1 : c.toNat % 128 * 128 ^ k ≤ 127 * 128 ^ k := Nat.mul_le_mul_right _ hx
  rw [Nat.pow_succ]
  omega

/-- What a reader is behind a number. -/
def RdNext (w w' : World) (base g : Nat) (from_ : Int) (bs : List Int) (r : Int × Nat × Nat) : Prop :=
  Rd w' base g (if r.1 = 0 then (r.2.2 : Int) else from_) from_ r.1 bs ∧ w.grownBy w' (some g)

set_option maxHeartbeats 4000000 in
set_option maxRecDepth 100000 in
theorem rnumber_any (base g p : Nat) (from_ a_ : Int) (bs : List Int) (w : World) (h : Rd w base g p a_ 0 bs) (hB : base ≤ w.heap.size) (hby : ∀ b ∈ bs, (0 : Int) ≤ b ∧ b < 256) (hp : p ≤ bs.length) :
    Calls Tryd.prog 75 #[.pointer (some ⟨g, 0, none⟩), .int .i64 from_] w fun e w' => e = .returned (.int .i64 (readN bs p).2.1) ∧ RdNext w w' base g from_ bs (readN bs p) := by
  obtain ⟨hg, ev, bv, hR, hO, he⟩ := h
  obtain rfl : ev = .nilIface := by
    rcases he with ⟨_, h⟩ | ⟨hne, _⟩
    · exact h
    · exact absurd rfl hne
  obtain ⟨A, c, rfl, hcap, hrd⟩ := hO.form
  have HR := Lib.hid hR
  have HO := Lib.hid hO
  have HD := Lib.hid hrd
  have HY := Lib.hid hby
  have hlen := hrd.len
  clear hR hO hrd hby he
  go_enter Tryd.func75, Tryd.ntmps75
  go_wp2
  go_loopw [5, 6] (fun n i wr => ∃ j acc : Nat, j ≤ 9 ∧ n = .int .i64 acc ∧ i = .int .i64 j ∧ p + j ≤ bs.length ∧ Hid (acc < 128 ^ j) ∧ Hid (readN bs p = rn bs (9 - j) j (p + j) acc) ∧ Hid (RdAt wr g (p + j : Nat) .nilIface (.slice A bs.length c)) ∧ Hid (w.grownBy wr (some g))) (fun _ i _ => 10 - (intOf i).toNat)
  case atStart => exact ⟨0, 0, by omega, rfl, rfl, by omega, Lib.hid (by decide), Lib.hid rfl, HR, Lib.hid (grown_refl _ _)⟩
  case round =>
    obtain ⟨j, acc, hj, rfl, rfl, hpj, HA, HN, HX, HW⟩ := hrel
    have z0 : wr.cell? ⟨g, 0, none⟩ = some (.int .i64 (p + j : Nat)) := (blk_cell HX.out 0).trans rfl
    have z1 : wr.cell? ⟨g, 1, none⟩ = some .nilIface := (blk_cell HX.out 1).trans rfl
    have z2 : wr.cell? ⟨g, 2, none⟩ = some (.slice A bs.length c) := (blk_cell HX.out 2).trans rfl
    have f0 := blk_frozen HX.out 0
    have hbw := HW.out.size
    by_cases h9 : j = 9
    · obtain rfl := h9
      go_wp2_with fail
      refine (spoil_any g _ from_ 2 _ _ _ HX.out).mono ?_
      rintro e w1 ⟨rfl, ⟨ev2, hx2, he2⟩, hg2⟩
      have HX2 := Lib.hid hx2
      have HE2 := Lib.hid he2
      have HG2 := Lib.hid hg2
      clear hx2 he2 hg2 z0 z1 z2 f0
      go_wp2_with fail
      go_ret
      have hrn : readN bs p = (2, 0, p + 9) := HN.out
      rw [hrn]
      exact ⟨rfl, ⟨hg, _, _, HX2.out, (HO.out.grownR HR.out HW.out).grownR HX.out HG2.out, .inr ⟨(by decide : (2 : Int) ≠ 0), HE2.out.lower (by omega)⟩⟩, grown_trans HW.out HG2.out⟩
    · have hj9 : ((9 : Int) ≤ (j : Int)) = False := by simp; omega
      have HN2 : Hid (readN bs p = rn bs (8 - j + 1) j (p + j) acc) := Lib.hid (by rw [HN.out, show 9 - j = 8 - j + 1 by omega])
      by_cases hend : p + j = bs.length
      · have hge : (bs.length : Int) ≤ (p : Int) + (j : Int) := by omega
        have HEN := Lib.hid hend
        clear hend
        go_wp2_with fail
        go_quiet (fail)
        have HX1 : Hid (RdAt (wr.drewN nq) g (p + j : Nat) .nilIface (.slice A bs.length c)) := HX
        have HW1 := Lib.hid (grown_trans HW.out (grown_drewN wr nq (some g)))
        have hbw1 := HW1.out.size
        generalize wr.drewN nq = wq at HX1 HW1 hbw1 ⊢
        go_wp2_with fail
        refine (spoil_any g _ from_ 3 _ _ _ HX1.out).mono ?_
        rintro e w1 ⟨rfl, ⟨ev2, hx2, he2⟩, hg2⟩
        have HX2 := Lib.hid hx2
        have HE2 := Lib.hid he2
        have HG2 := Lib.hid hg2
        clear hx2 he2 hg2 z0 z1 z2 f0
        go_wp2_with fail
        go_ret
        have hrn : readN bs p = (3, 0, p + j) := by rw [HN2.out]; exact rn_end (List.getElem?_eq_none (by have := HEN.out; omega))
        rw [hrn]
        exact ⟨rfl, ⟨hg, _, _, HX2.out, (HO.out.grownR HR.out HW1.out).grownR HX1.out HG2.out, .inr ⟨(by decide : (3 : Int) ≠ 0), HE2.out.lower (by omega)⟩⟩, grown_trans HW1.out HG2.out⟩
      · have hlt : (p : Int) + (j : Int) < (bs.length : Int) := by omega
        have hltN : p + j < bs.length := by omega
        have how := HO.out.grownR HR.out HW.out
        obtain ⟨gb, cap2, hv, hq1, hq2, hq3⟩ := Kd.R_form how.R (by omega)
        injection hv with hA hll hc2
        subst hA hc2
        clear hq1 hq2 hq3 hll
        have hcell := (own_at how ((p + j : Nat) : Int) (by omega) (by omega)).1
        obtain ⟨x, hx⟩ : ∃ x, bs[p + j]? = some x := ⟨_, List.getElem?_eq_getElem hltN⟩
        have hrd : rd bs ((p + j : Nat) : Int) = x := by unfold rd; rw [Int.toNat_natCast, List.getD_eq_getElem?_getD, hx]; rfl
        rw [hrd, Int.toNat_natCast] at hcell
        obtain ⟨hx0, hx1⟩ := HY.out x (List.mem_of_getElem? hx)
        have HXX := Lib.hid hx
        have hnot : ¬ ((bs.length : Int) ≤ (p : Int) + (j : Int)) := by omega
        clear how hrd hx hltN
        obtain ⟨y, hy⟩ : ∃ y : Nat, y = x.toNat % 128 * 128 ^ j := ⟨_, rfl⟩
        obtain ⟨z, hz⟩ : ∃ z : Nat, z = acc + y := ⟨_, rfl⟩
        have hand := and_127 hx0 hx1
        have hj9' : j < 9 := by omega
        have hshl : wrap64 (x % 128 * 2 ^ (7 * j)) = (y : Int) := by rw [hy]; exact shl_7 hx0 hj9'
        have hor : bits .or .i64 (acc : Int) (y : Int) = (z : Int) := by rw [hz, hy]; exact or_acc HA.out (Nat.mod_lt _ (by decide)) hj9'
        have HZ : Hid (z = acc + x.toNat % 128 * 128 ^ j) := Lib.hid (by rw [hz, hy])
        clear hy hz
        by_cases h128 : 128 ≤ x
        · go_wp2_with fail
          go_quiet (fail)
          revert nq; intro nq1
          go_wp2_with fail
          go_quiet (fail)
          revert nq; intro nq2
          go_wp2_with fail
          have HX1 : Hid (RdAt ((wr.drewN (nq1 + nq2)).setCell ⟨g, 0, none⟩ (.int .i64 (p + j + 1))) g (p + (j + 1) : Nat) .nilIface (.slice (some ⟨gb, 0, none⟩) bs.length c)) := Lib.hid (by
            have := blk_set (w := wr.drewN (nq1 + nq2)) HX.out 0 (.int .i64 ((p : Int) + j + 1))
            rw [show ((p + (j + 1) : Nat) : Int) = (p : Int) + j + 1 by omega]
            exact this)
          have HW1 := Lib.hid (grown_trans (grown_trans HW.out (grown_drewN wr (nq1 + nq2) (some g))) (grown_set _ g 0 (.int .i64 (p + j + 1))))
          go_roundw
          case rel =>
            refine ⟨j + 1, z, by omega, rfl, by go_num, by omega, Lib.hid ?_, Lib.hid ?_, HX1, HW1⟩
            · rw [HZ.out]; exact acc_lt HA.out
            · rw [HN2.out, rn_more HXX.out h128, HZ.out, show 9 - (j + 1) = 8 - j by omega, show p + (j + 1) = p + j + 1 by omega]
          case measure => simp [intOf]; omega
        · by_cases hz0 : x = 0 ∧ 0 < j
          · obtain ⟨rfl, hj0⟩ := hz0
            go_wp2_with fail
            go_quiet (fail)
            revert nq; intro nq1
            go_wp2_with fail
            go_quiet (fail)
            revert nq; intro nq2
            go_wp2_with fail
            have HX1 : Hid (RdAt ((wr.drewN (nq1 + nq2)).setCell ⟨g, 0, none⟩ (.int .i64 (p + j + 1))) g (p + j + 1) .nilIface (.slice (some ⟨gb, 0, none⟩) bs.length c)) := blk_set (w := wr.drewN (nq1 + nq2)) HX.out 0 (.int .i64 ((p : Int) + j + 1))
            have HW1 := Lib.hid (grown_trans (grown_trans HW.out (grown_drewN wr (nq1 + nq2) (some g))) (grown_set _ g 0 (.int .i64 (p + j + 1))))
            generalize (wr.drewN (nq1 + nq2)).setCell ⟨g, 0, none⟩ (.int .i64 (p + j + 1)) = wq at HX1 HW1 ⊢
            have hbw1 := HW1.out.size
            refine (spoil_any g _ from_ 2 _ _ _ HX1.out).mono ?_
            rintro e w1 ⟨rfl, ⟨ev2, hx2, he2⟩, hg2⟩
            have HX2 := Lib.hid hx2
            have HE2 := Lib.hid he2
            have HG2 := Lib.hid hg2
            clear hx2 he2 hg2 z0 z1 z2 f0
            go_wp2_with fail
            go_ret
            have hrn : readN bs p = (2, 0, p + j) := by rw [HN2.out]; exact rn_bad HXX.out rfl hj0
            rw [hrn]
            exact ⟨rfl, ⟨hg, _, _, HX2.out, (HO.out.grownR HR.out HW1.out).grownR HX1.out HG2.out, .inr ⟨(by decide : (2 : Int) ≠ 0), HE2.out.lower (by omega)⟩⟩, grown_trans HW1.out HG2.out⟩
          · have HZ0 := Lib.hid hz0
            clear hz0
            go_wp2_with fail
            go_quiet (fail)
            revert nq; intro nq1
            go_wp2_with fail
            go_quiet (fail)
            revert nq; intro nq2
            go_wp2_with fail
            all_goals first
              | exact absurd ⟨‹x = 0›, ‹0 < j›⟩ HZ0.out
              | (have HX1 : Hid (RdAt ((wr.drewN (nq1 + nq2)).setCell ⟨g, 0, none⟩ (.int .i64 (p + j + 1))) g (p + j + 1 : Nat) .nilIface (.slice (some ⟨gb, 0, none⟩) bs.length c)) := blk_set (w := wr.drewN (nq1 + nq2)) HX.out 0 (.int .i64 ((p : Int) + j + 1))
                 have HW1 := Lib.hid (grown_trans (grown_trans HW.out (grown_drewN wr (nq1 + nq2) (some g))) (grown_set _ g 0 (.int .i64 (p + j + 1))))
                 have HRN : Hid (readN bs p = (0, z, p + j + 1)) := Lib.hid (by rw [HN2.out, rn_last HXX.out (by omega) HZ0.out, HZ.out])
                 go_ret
                 rw [HRN.out]
                 exact ⟨rfl, ⟨hg, _, _, HX1.out, HO.out.grownR HR.out HW1.out, .inl ⟨rfl, rfl⟩⟩, HW1.out⟩)

end Go.Proofs.YtlgippliihgcjaaDoor.C
