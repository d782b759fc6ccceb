/- The document's reader of a number: it reads as the program's does. -/
import Derived.Test.YtlgippliihgcjaaDoorR7
import Derived.Test.YtlgippliihgcjaaDoorP3
import Derived.Deep.QuietTactic
import Derived.BigQuiet
namespace Go.Proofs.YtlgippliihgcjaaDoor.C
set_option linter.unusedVariables false
set_option linter.unusedSimpArgs false
open Go.RowKit Go.Proofs.YtlgippliihgcjaaDoorW.PrintWords

/-- The number of the first j bytes at p, the low ones first. -/
def accF (bs : List Int) (p : Nat) : Nat → Nat
  | 0 => 0
  | j + 1 => accF bs p j + ((bs.getD (p + j) 0).toNat % 128) * 128 ^ j
theorem accF_lt (bs : List Int) (p : Nat) : ∀ j, accF bs p j < 128 ^ j
  | 0 => by simp [accF]
  | j + 1 => by
    have := accF_lt bs p j
    exact acc_lt (c := bs.getD (p + j) 0) this
/-- While the end is looked for. -/
def EndAt (bs : List Int) (p j : Nat) : Prop := readN bs p = rn bs (9 - j) j (p + j) (accF bs p j)
theorem EndAt.more {bs : List Int} {p j : Nat} {x : Int} (h : EndAt bs p j) (hj : j < 9) (hx : bs[p + j]? = some x) (h1 : 128 ≤ x) : EndAt bs p (j + 1) := by
  unfold EndAt at h ⊢
  rw [h, show 9 - j = 8 - j + 1 by omega, rn_more hx h1, show 9 - (j + 1) = 8 - j by omega, Nat.add_assoc]
  simp only [accF, List.getD_eq_getElem?_getD, hx, Option.getD_some]
theorem EndAt.far {bs : List Int} {p : Nat} (h : EndAt bs p 9) : readN bs p = (2, 0, p + 9) := h
theorem EndAt.out {bs : List Int} {p j : Nat} (h : EndAt bs p j) (hj : j < 9) (hl : bs.length ≤ p + j) : readN bs p = (3, 0, p + j) := by
  unfold EndAt at h
  rw [h, show 9 - j = 8 - j + 1 by omega, rn_end (List.getElem?_eq_none hl)]
theorem EndAt.bad {bs : List Int} {p j : Nat} (h : EndAt bs p j) (hj : j < 9) (hx : bs[p + j]? = some 0) (h1 : 0 < j) : readN bs p = (2, 0, p + j) := by
  unfold EndAt at h
  rw [h, show 9 - j = 8 - j + 1 by omega, rn_bad hx rfl h1]
theorem EndAt.last {bs : List Int} {p j : Nat} {x : Int} (h : EndAt bs p j) (hj : j < 9) (hx : bs[p + j]? = some x) (h1 : x < 128) (h2 : ¬ (x = 0 ∧ 0 < j)) : readN bs p = (0, accF bs p (j + 1), p + j + 1) := by
  unfold EndAt at h
  rw [h, show 9 - j = 8 - j + 1 by omega, rn_last hx (by omega) h2]
  simp only [accF, List.getD_eq_getElem?_getD, hx, Option.getD_some]

/-- While the number is put together: n of the bytes from i on. -/
def UpTo (bs : List Int) (p m i n : Nat) : Prop := accF bs p m = accF bs p i + 128 ^ i * n
theorem UpTo.next {bs : List Int} {p m i n : Nat} {x : Int} (h : UpTo bs p m (i + 1) n) (hx : bs[p + i]? = some x) : UpTo bs p m i (n * 128 + x.toNat % 128) := by
  unfold UpTo at h ⊢
  rw [h]
  simp only [accF, List.getD_eq_getElem?_getD, hx, Option.getD_some]
  rw [Nat.mul_add, Nat.pow_succ, Nat.add_assoc]
  congr 1
  rw [Nat.mul_comm (x.toNat % 128), Nat.add_comm, Nat.mul_assoc, Nat.mul_comm 128 n]
theorem UpTo.lt {bs : List Int} {p m i n : Nat} (h : UpTo bs p m i n) (hm : m ≤ 9) : n < 9223372036854775808 := by
  unfold UpTo at h
  have h1 := accF_lt bs p m
  have h2 : 128 ^ m ≤ 128 ^ 9 := Nat.pow_le_pow_right (by omega) hm
  have h3 : (128 : Nat) ^ 9 = 9223372036854775808 := by decide
  have h4 : n ≤ 128 ^ i * n := Nat.le_mul_of_pos_left n (Nat.pow_pos (by omega))
  omega

theorem bread_at {w : World} {A : Option Addr} {bs : List Int} (h : BRead w A bs) {k : Nat} {x : Int} (hk : bs[k]? = some x) : ∃ ad, A = some ad ∧ w.cell? (ad.add k) = some (.int .u8 x) := by
  obtain ⟨ad, x', e, hc, hx⟩ := cells_at (cells_C h) (Below.refl _ _) (k := k) (by rw [List.length_map]; exact (List.getElem?_eq_some_iff.1 hk).1)
  rw [List.getElem?_map, hk] at hx
  cases hx
  exact ⟨ad, e, hc⟩

/-- What the document's reader of a number tells. -/
def RefTold (bs : List Int) (p : Nat) (w : World) (e : Ending) (w' : World) : Prop :=
  e = .returned (.tuple #[.int .i64 (readN bs p).2.1, .int .i64 (if (readN bs p).1 = 0 then ((readN bs p).2.2 : Int) else p), .int .i64 (readN bs p).1]) ∧ w = w'

set_option maxHeartbeats 4000000 in
set_option maxRecDepth 100000 in
theorem refRead_any (A : Option Addr) (cp p : Nat) (bs : List Int) (w : World) (h : BRead w A bs) (hby : Bytes bs) (hp : p ≤ bs.length) (hl : bs.length ≤ 70368744177664) :
    Calls Tryd.prog 78 #[.slice A bs.length cp, .int .i64 p] w (RefTold bs p w) := by
  have HD := Lib.hid h
  have HY := Lib.hid hby
  clear h hby
  go_enter Tryd.func78, Tryd.ntmps78
  go_wp2
  go_loop [7] (fun i => ∃ j : Nat, j ≤ 9 ∧ p + j ≤ bs.length ∧ i = .int .i64 (p + j : Nat) ∧ Hid (EndAt bs p j)) (fun i => 10 + p - (intOf i).toNat)
  case atStart => exact ⟨0, by omega, by omega, rfl, Lib.hid rfl⟩
  case round =>
    obtain ⟨j, hj, hpj, rfl, HE⟩ := hrel
    by_cases hend : (p : Int) + (j : Int) < (bs.length : Int)
    · obtain ⟨x, hx⟩ : ∃ x, bs[p + j]? = some x := ⟨_, List.getElem?_eq_getElem (by omega)⟩
      obtain ⟨ad, rfl, hcell⟩ := bread_at HD.out hx
      obtain ⟨hx0, hx1⟩ := HY.out x (List.mem_of_getElem? hx)
      have HX := Lib.hid hx
      clear hx
      by_cases h9 : (p : Int) + (j : Int) < (p : Int) + 9
      · by_cases h128 : 128 ≤ x
        · go_wp2_with fail
          go_round
          case rel => exact ⟨j + 1, by omega, by omega, by go_num, Lib.hid (HE.out.more (by omega) HX.out h128)⟩
          case measure => simp [intOf]; omega
        · by_cases hz : x = 0 ∧ 0 < j
          · obtain ⟨rfl, hj0⟩ := hz
            have hgt : (p : Int) < (p : Int) + (j : Int) := by omega
            have HR := Lib.hid (HE.out.bad (by omega) HX.out hj0)
            go_wp2_with fail
            go_ret3
            unfold RefTold
            rw [HR.out]
            exact ⟨rfl, rfl⟩
          · have HR := Lib.hid (HE.out.last (by omega) HX.out (by omega) hz)
            have HZ := Lib.hid hz
            clear hz
            by_cases hx00 : x = 0
            all_goals
              first
                | (obtain rfl := hx00; have hle : (p : Int) + (j : Int) ≤ (p : Int) := by have := HZ.out; omega)
                | (have hne : (x == 0) = false := by simpa using hx00
                   clear hx00)
              go_wp2_with fail
              go_loop [8, 9] (fun n i => ∃ (ii nn : Nat) (q : Int), ii ≤ j + 1 ∧ n = .int .i64 nn ∧ i = .int .i64 q ∧ q = (p : Int) + ii - 1 ∧ Hid (UpTo bs p (j + 1) ii nn)) (fun _ i => (intOf i + 1 - p).toNat)
              case atStart => exact ⟨j + 1, 0, _, Nat.le_refl _, rfl, rfl, by omega, Lib.hid (by simp [UpTo])⟩
              case round =>
                obtain ⟨ii, nn, q, hii, rfl, rfl, hq, HU⟩ := hrel
                cases ii with
                | zero =>
                  obtain rfl : q = (p : Int) - 1 := by omega
                  have HU0 := Lib.hid HU.out
                  clear hq
                  go_wp2_with fail
                  go_ret3
                  unfold RefTold
                  have : accF bs p (j + 1) = nn := by have := HU0.out; unfold UpTo at this; simpa [accF] using this
                  rw [HR.out, this]
                  exact ⟨rfl, rfl⟩
                | succ k =>
                  obtain rfl : q = (p : Int) + k := by omega
                  clear hq
                  obtain ⟨y, hy⟩ : ∃ y, bs[p + k]? = some y := ⟨_, List.getElem?_eq_getElem (by omega)⟩
                  obtain ⟨ad2, had, hcell2⟩ := bread_at HD.out hy
                  obtain rfl := Option.some.inj had
                  clear had
                  obtain ⟨hy0, hy1⟩ := HY.out y (List.mem_of_getElem? hy)
                  have HN := Lib.hid (HU.out.next hy)
                  have hlt := HN.out.lt (by omega)
                  have hnn : (nn : Int) ≤ 72057594037927935 := by omega
                  have hkb : (p : Int) + (k : Int) < (bs.length : Int) := by omega
                  clear hy
                  go_wp2_with fail
                  go_round
                  case rel =>
                    refine ⟨k, nn * 128 + y.toNat % 128, _, by omega, ?_, rfl, by omega, HN⟩
                    go_num
                  case measure => simp [intOf]; omega
      · have HR := Lib.hid ((show j = 9 by omega) ▸ HE.out : EndAt bs p 9).far
        go_wp2_with fail
        go_ret3
        unfold RefTold
        rw [HR.out]
        exact ⟨rfl, rfl⟩
    · by_cases h9 : (p : Int) + (j : Int) < (p : Int) + 9
      · have HR := Lib.hid (HE.out.out (by omega) (by omega))
        go_wp2_with fail
        go_ret3
        unfold RefTold
        rw [HR.out]
        exact ⟨rfl, rfl⟩
      · have HR := Lib.hid ((show j = 9 by omega) ▸ HE.out : EndAt bs p 9).far
        go_wp2_with fail
        go_ret3
        unfold RefTold
        rw [HR.out]
        exact ⟨rfl, rfl⟩
end Go.Proofs.YtlgippliihgcjaaDoor.C
