/- coil.Num. -/
import Derived.Test.YtlgippliihgcjaaDoorC4
namespace Go.Proofs.YtlgippliihgcjaaDoor.C
set_option linter.unusedVariables false
set_option linter.unusedSimpArgs false
open Go.RowKit Go.Proofs.YtlgippliihgcjaaDoorW.PrintWords

/-- A number's bytes. -/
def numB (n : Nat) : List Int := if n < 128 then [(n : Int)] else ((n % 128 + 128 : Nat) : Int) :: numB (n / 128)
termination_by n
decreasing_by omega

theorem numB_small {n : Nat} (h : n < 128) : numB n = [(n : Int)] := by unfold numB; rw [if_pos h]
theorem numB_big {n : Nat} (h : ¬ n < 128) : numB n = ((n % 128 + 128 : Nat) : Int) :: numB (n / 128) := by rw [numB]; rw [if_neg h]
theorem numB_len (d : Nat) : ∀ n, n < 128 ^ d → (numB n).length ≤ max d 1 := by
  induction d with
  | zero => intro n h; rw [numB_small (by omega)]; exact Nat.le_max_right _ _
  | succ d ih =>
    intro n h
    by_cases h1 : n < 128
    · rw [numB_small h1, List.length_singleton]; exact Nat.le_max_right _ _
    · rw [numB_big h1, List.length_cons]
      have := ih (n / 128) (by rw [Nat.pow_succ] at h; omega)
      cases d with
      | zero => simp at h; omega
      | succ d => omega
theorem numB_len' {n : Nat} (h : n ≤ 9223372036854775807) : (numB n).length ≤ 9 := by
  have := numB_len 9 n (by omega)
  omega
theorem or_128 (k : Nat) : bits .or .u8 ((k : Int) % 256) 128 = ((k % 128 + 128 : Nat) : Int) := by
  have h : ∀ x : Fin 256, bits .or .u8 (x.val : Int) 128 = ((x.val % 128 + 128 : Nat) : Int) := by decide +kernel
  have := h ⟨k % 256, by omega⟩
  rw [show ((k : Int) % 256) = ((k % 256 : Nat) : Int) by omega, this]
  simp
theorem numB_pos (n : Nat) : 0 < (numB n).length := by
  unfold numB; split <;> simp

set_option maxHeartbeats 1000000 in
set_option maxRecDepth 100000 in
theorem num_any (A : Option Addr) (c : Nat) (bs : List Int) (n : Int) (w : World) (h : BRead w A bs) (hl : bs.length ≤ 70368744177664) (h0 : 0 ≤ n) (h1 : n ≤ 9223372036854775807) :
    Calls Tryd.prog 32 #[.slice A bs.length c, .int .i64 n] w fun e w' => ∃ v, e = .returned v ∧ BOwn w' w.heap.size v (bs ++ numB n.toNat) ∧ Below w.heap.size w w' := by
  have hlen := numB_len' (n := n.toNat) (by omega)
  obtain ⟨n0, hn0⟩ : ∃ n0 : Nat, n0 = n.toNat := ⟨_, rfl⟩
  rw [← hn0] at hlen ⊢
  obtain rfl : n = (n0 : Int) := by omega
  clear hn0
  have hcl := Lib.hid (clone_any A c bs w h (by omega))
  clear h
  go_enter Tryd.func32, Tryd.ntmps32
  go_wp2_with fail
  refine hcl.out.mono ?_
  rintro e w1 ⟨v, rfl, ho, hb⟩
  have HO := Lib.hid ho
  have HB := Lib.hid hb
  clear ho hb hcl
  go_wp2_with fail
  go_loopw [1, 5] (fun m v wr => ∃ (k : Nat) (pre : List Int), m = .int .i64 k ∧ k ≤ n0 ∧ Hid (numB n0 = pre ++ numB k) ∧ Hid (BOwn wr w.heap.size v (bs ++ pre)) ∧ Below w.heap.size w wr) (fun m _ _ => (intOf m).toNat)
  case atStart => exact ⟨n0, [], rfl, Nat.le_refl _, rfl, Lib.hid (by simpa using HO.out), HB.out⟩
  case round =>
    obtain ⟨k, pre, rfl, hk, HN, HV, hb⟩ := hrel
    have hlp : (bs ++ pre).length ≤ bs.length + 9 := by
      have := congrArg List.length HN.out
      rw [List.length_append] at this ⊢
      omega
    have hbs := hb.size
    by_cases hlt : k < 128
    · have HS := Lib.hid (numB_small hlt)
      go_wp2_with (at_builtin; refine print_append_num (w0 := w) w.heap.size rfl (.tmp 20) (.tmp 23) 30 5 .u8 1 rfl Tryd.underlying30 info_u8 (by omega) _ (bs ++ pre) k rfl rfl HV.out hb hbs (by omega) ?_; intro v1 w1 hown hb1 hg1 hat1; have HO := Lib.hid hown; have HB := Lib.hid hb1; clear hown hb1 hg1 hat1)
      go_ret
      exact ⟨_, rfl, by rw [HN.out, HS.out, ← List.append_assoc]; exact HO.out, HB.out⟩
    · have HS := Lib.hid (numB_big hlt)
      have hor := or_128 k
      go_wp2_with (at_builtin; refine print_append_num (w0 := w) w.heap.size rfl (.tmp 14) (.tmp 18) 30 5 .u8 1 rfl Tryd.underlying30 info_u8 (by omega) _ (bs ++ pre) ((k % 128 + 128 : Nat) : Int) rfl rfl HV.out hb hbs (by omega) ?_; intro v1 w1 hown hb1 hg1 hat1; have HO := Lib.hid hown; have HB := Lib.hid hb1; clear hown hb1 hg1 hat1)
      go_roundw
      case rel => exact ⟨k / 128, pre ++ [((k % 128 + 128 : Nat) : Int)], by go_num, by omega, Lib.hid (by rw [HN.out, HS.out]; simp), Lib.hid (by rw [← List.append_assoc]; exact HO.out), HB.out⟩
      case measure => simp [intOf]; omega


theorem num_own (v : Value) (bs : List Int) (base : Nat) (n : Int) (w : World) (h : BOwn w base v bs) (hl : bs.length ≤ 70368744177664) (h0 : 0 ≤ n) (h1 : n ≤ 9223372036854775807) :
    Calls Tryd.prog 32 #[v, .int .i64 n] w fun e w' => ∃ v, e = .returned v ∧ BOwn w' w.heap.size v (bs ++ numB n.toNat) ∧ Below w.heap.size w w' := by
  obtain ⟨A, c, rfl, _, hr⟩ := h.form
  exact num_any A c bs n w hr hl h0 h1

/-- A text's bytes, with their number ahead. -/
def txtB (s : ByteArray) : List Int := numB s.size ++ bytesOf s
theorem txtB_len (s : ByteArray) (h : s.size ≤ 9223372036854775807) : (txtB s).length ≤ 9 + s.size := by
  rw [txtB, List.length_append, bytesOf_length]
  have := numB_len' h
  omega

set_option maxHeartbeats 1000000 in
set_option maxRecDepth 100000 in
theorem text_own (v : Value) (bs : List Int) (base : Nat) (s : ByteArray) (w : World) (h : BOwn w base v bs) (hl : bs.length ≤ 70368744177664) (hs : s.size ≤ 35184372088832) :
    Calls Tryd.prog 34 #[v, .string s] w fun e w' => ∃ v, e = .returned v ∧ BOwn w' w.heap.size v (bs ++ txtB s) ∧ Below w.heap.size w w' := by
  have hcl := Lib.hid (num_own v bs base s.size w h hl (by omega) (by omega))
  have hn := numB_len' (n := s.size) (by omega)
  clear h
  go_enter Tryd.func34, Tryd.ntmps34
  go_wp2_with fail
  refine hcl.out.mono ?_
  rintro e w1 ⟨v1, rfl, ho, hb⟩
  have HO := Lib.hid ho
  have HB := Lib.hid hb
  have hsz := hb.size
  clear ho hb hcl
  have hlen : (bs ++ numB s.size).length + s.size ≤ 140737488355328 := by rw [List.length_append]; omega
  go_wp2_with (at_builtin; refine print_append_str (w0 := w) w.heap.size rfl (.tmp 8) (.tmp 9) 30 9 5 rfl Tryd.underlying30 Tryd.underlying9 info_u8 _ (bs ++ numB s.size) s rfl rfl HO.out HB.out hsz hlen ?_; intro v2 w2 hown hb2 hg2; have HO2 := Lib.hid hown; have HB2 := Lib.hid hb2; clear hown hb2 hg2)
  go_ret
  exact ⟨_, rfl, by rw [txtB, ← List.append_assoc]; exact HO2.out, HB2.out⟩

end Go.Proofs.YtlgippliihgcjaaDoor.C
