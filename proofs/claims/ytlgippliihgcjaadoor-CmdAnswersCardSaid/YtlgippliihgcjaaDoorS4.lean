/- The document's writer: a number, a text, a command's numbers and texts. -/
import Derived.Test.YtlgippliihgcjaaDoorC6
import Derived.Test.YtlgippliihgcjaaDoorR9

namespace Go.Proofs.YtlgippliihgcjaaDoor.C
set_option linter.unusedVariables false
set_option linter.unusedSimpArgs false
open Go.RowKit Go.Proofs.YtlgippliihgcjaaDoorW.PrintWords

set_option maxHeartbeats 4000000 in
set_option maxRecDepth 100000 in
theorem refNum_small (n : Int) (w : World) (h0 : 0 ≤ n) (h1 : n < 128) :
    Calls Tryd.prog 52 #[.int .i64 n] w fun e w' => ∃ v, e = .returned v ∧ BOwn w' w.heap.size v (numB n.toNat) ∧ Below w.heap.size w w' := by
  have HS := Lib.hid (numB_small (n := n.toNat) (by omega))
  go_enter Tryd.func52, Tryd.ntmps52
  go_wp2_with fail
  go_ret
  refine ⟨_, rfl, ?_, below_alloc (Below.refl _ _) _⟩
  rw [HS.out, Int.toNat_of_nonneg h0]
  exact own_lit w w.heap.size 5 .u8 [n] (Nat.le_refl _) (by simp)

set_option maxHeartbeats 4000000 in
set_option maxRecDepth 100000 in
theorem refNum_nat : ∀ (m : Nat) (w : World), m ≤ 9223372036854775807 →
    Calls Tryd.prog 52 #[.int .i64 m] w fun e w' => ∃ v, e = .returned v ∧ BOwn w' w.heap.size v (numB m) ∧ Below w.heap.size w w' := by
  intro m
  induction m using Nat.strongRecOn with
  | _ m ih =>
    intro w hm
    by_cases hlt : m < 128
    · exact refNum_small m w (by omega) (by omega)
    · have HI := Lib.hid (fun w => ih (m / 128) (by omega) w (by omega))
      have hl := numB_len' (n := m / 128) (by omega)
      have HS := Lib.hid (numB_big hlt)
      have hge : ¬ ((m : Int) < 128) := by omega
      clear ih hlt
      go_enter Tryd.func52, Tryd.ntmps52
      go_wp2_with fail
      rw [show ((m : Int) / 128) = ((m / 128 : Nat) : Int) by omega]
      refine (HI.out _).mono ?_
      rintro e w2 ⟨v2, rfl, ho, hb⟩
      obtain ⟨A2, c2, rfl, _, hr⟩ := ho.form
      have HR := Lib.hid hr
      have HO := Lib.hid ((show BOwn (w.alloc (.cells #[.int .u8 (128 + (m : Int) % 128)] 5)) w.heap.size (.slice (some ⟨w.heap.size, 0, none⟩) 1 1) [128 + (m : Int) % 128] from own_lit w w.heap.size 5 .u8 [128 + (m : Int) % 128] (Nat.le_refl _) (by simp)).below hb)
      have HB := Lib.hid ((below_alloc (Below.refl w.heap.size w) _).trans (hb.mono (by simp)))
      have hsz := HB.out.size
      clear ho hb hr HI
      go_wp2_with (at_builtin; refine print_append_row (w0 := w) w.heap.size rfl (.tmp 14) (.tmp 17) 30 5 .u8 1 rfl Tryd.underlying30 info_u8 (by omega) _ [128 + (m : Int) % 128] (numB (m / 128)) A2 _ c2 rfl rfl HO.out HR.out.reads HB.out hsz (by simp; omega) ?_; intro v1 w3 hown hb3 hg3 hat3; have HO3 := Lib.hid hown; have HB3 := Lib.hid hb3; clear hown hb3 hg3 hat3)
      go_ret
      refine ⟨_, rfl, ?_, HB3.out⟩
      rw [HS.out, show ((m % 128 + 128 : Nat) : Int) = 128 + (m : Int) % 128 by omega]
      exact HO3.out

theorem refNum_any (n : Int) (w : World) (h0 : 0 ≤ n) (h1 : n ≤ 9223372036854775807) :
    Calls Tryd.prog 52 #[.int .i64 n] w fun e w' => ∃ v, e = .returned v ∧ BOwn w' w.heap.size v (numB n.toNat) ∧ Below w.heap.size w w' := by
  obtain ⟨m, rfl⟩ := Int.eq_ofNat_of_zero_le h0
  exact refNum_nat m w (by omega)

set_option maxHeartbeats 4000000 in
set_option maxRecDepth 100000 in
theorem refText_own (s : ByteArray) (w : World) (hs : s.size ≤ 35184372088832) :
    Calls Tryd.prog 53 #[.string s] w fun e w' => ∃ v, e = .returned v ∧ BOwn w' w.heap.size v (txtB s) ∧ Below w.heap.size w w' := by
  have hcl := Lib.hid (refNum_nat s.size w (by omega))
  have hn := numB_len' (n := s.size) (by omega)
  go_enter Tryd.func53, Tryd.ntmps53
  go_wp2_with fail
  refine hcl.out.mono ?_
  rintro e w1 ⟨v1, rfl, ho, hb⟩
  have HO := Lib.hid ho
  have HB := Lib.hid hb
  have hsz := hb.size
  clear ho hb hcl
  have hlen : (numB s.size).length + s.size ≤ 140737488355328 := by omega
  go_wp2_with (at_builtin; refine print_append_str (w0 := w) w.heap.size rfl (.tmp 5) (.tmp 6) 30 9 5 rfl Tryd.underlying30 Tryd.underlying9 info_u8 _ (numB s.size) s rfl rfl HO.out HB.out hsz hlen ?_; intro v2 w2 hown hb2 hg2; have HO2 := Lib.hid hown; have HB2 := Lib.hid hb2; clear hown hb2 hg2)
  go_ret
  exact ⟨_, rfl, by rw [txtB]; exact HO2.out, HB2.out⟩

theorem own_lit_at (W : World) (base g : Nat) (e : TypeId) (k : IntKind) (xs : List Int) (hg : g = W.heap.size) (hb : base ≤ W.heap.size) (hm : xs.length ≤ 9223372036854775807) :
    (W.alloc (.cells (nums k xs).toArray e)).ownsRow base e 1 (.slice (some ⟨g, 0, none⟩) xs.length xs.length) xs.length (nums k xs) := by
  subst hg; exact own_lit W base e k xs hb hm
theorem own_lit_at_of {α : Type} {enc : α → Value} (W : World) (base g : Nat) (e : TypeId) (xs : List α) (hg : g = W.heap.size) (hb : base ≤ W.heap.size) (hm : xs.length ≤ 9223372036854775807) :
    (W.alloc (.cells (encs enc xs).toArray e)).ownsRow base e 1 (.slice (some ⟨g, 0, none⟩) xs.length xs.length) xs.length (encs enc xs) := by
  subst hg; exact own_lit_of W base e xs hb hm

set_option maxHeartbeats 4000000 in
set_option maxRecDepth 100000 in
theorem tnumbers_any (c : Cm) (bv : Value) (w : World) (h0 : -1 ≤ c.n) (h1 : c.n < 4611686018427387904) :
    Calls Tryd.prog 36 #[.agg #[.int .i64 c.client, .int .i64 c.req, .int .i64 c.kind, .string c.queue, .int .i64 c.vis, .int .i64 c.ret, .int .i64 c.del, .int .i64 c.win, .int .i64 c.mx, .string c.dead, .bool c.fifo, .string c.body, .string c.group, .string c.key, .string c.receipt, bv, .int .i64 c.n, .int .i64 c.m]] w fun e w' => ∃ v, e = .returned v ∧ IOwn w' w.heap.size v (c.nums ++ [if c.fifo then 1 else 0]) ∧ Below w.heap.size w w' := by
  cases hf : c.fifo
  all_goals
    go_enter Tryd.func36, Tryd.ntmps36
    go_wp2_with fail
    go_ret
    refine ⟨_, rfl, ?_, below_alloc (below_alloc (Below.refl _ _) _) _⟩
    show IOwn _ _ (.slice (some ⟨w.heap.size + 1, 0, none⟩) 11 11) _
    first
      | exact own_lit_at _ _ _ _ .i64 (c.nums ++ [0]) (by simp) (by simp) (by simp [Cm.nums])
      | exact own_lit_at _ _ _ _ .i64 (c.nums ++ [1]) (by simp) (by simp) (by simp [Cm.nums])

set_option maxHeartbeats 4000000 in
set_option maxRecDepth 100000 in
theorem ttexts_any (c : Cm) (bv : Value) (w : World) :
    Calls Tryd.prog 37 #[.agg #[.int .i64 c.client, .int .i64 c.req, .int .i64 c.kind, .string c.queue, .int .i64 c.vis, .int .i64 c.ret, .int .i64 c.del, .int .i64 c.win, .int .i64 c.mx, .string c.dead, .bool c.fifo, .string c.body, .string c.group, .string c.key, .string c.receipt, bv, .int .i64 c.n, .int .i64 c.m]] w fun e w' => ∃ v, e = .returned v ∧ SOwn w' w.heap.size v c.txts ∧ Below w.heap.size w w' := by
  go_enter Tryd.func37, Tryd.ntmps37
  go_wp2_with fail
  go_ret
  refine ⟨_, rfl, ?_, below_alloc (below_alloc (Below.refl _ _) _) _⟩
  show SOwn _ _ (.slice (some ⟨w.heap.size + 1, 0, none⟩) 6 6) _
  exact own_lit_at_of (enc := Value.string) _ _ _ _ c.txts (by simp) (by simp) (by simp [Cm.txts])
end Go.Proofs.YtlgippliihgcjaaDoor.C
