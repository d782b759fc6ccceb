/- The document's reader of a command. -/
import Derived.Test.YtlgippliihgcjaaDoorS3
import Derived.Test.YtlgippliihgcjaaDoorS5
import Derived.Test.YtlgippliihgcjaaDoorP3
import Derived.Laws.ResultCell
import Derived.Test.YtlgippliihgcjaaDoorR9
import Derived.Test.YtlgippliihgcjaaDoorK1
namespace Go.Proofs.YtlgippliihgcjaaDoor.C
set_option linter.unusedVariables false
set_option linter.unusedSimpArgs false
open Go.RowKit Go.Proofs.YtlgippliihgcjaaDoorW.PrintWords Go.Proofs.YtlgippliihgcjaaDoorW.PrintMore

/-- An array's cells. -/
def arrN (l : List Int) : Array Value := #[.int .i64 (l.getD 0 0), .int .i64 (l.getD 1 0), .int .i64 (l.getD 2 0), .int .i64 (l.getD 3 0), .int .i64 (l.getD 4 0), .int .i64 (l.getD 5 0), .int .i64 (l.getD 6 0), .int .i64 (l.getD 7 0), .int .i64 (l.getD 8 0), .int .i64 (l.getD 9 0), .int .i64 (l.getD 10 0)]
def arrT (l : List ByteArray) : Array Value := #[.string (l.getD 0 ⟨#[]⟩), .string (l.getD 1 ⟨#[]⟩), .string (l.getD 2 ⟨#[]⟩), .string (l.getD 3 ⟨#[]⟩), .string (l.getD 4 ⟨#[]⟩), .string (l.getD 5 ⟨#[]⟩)]
theorem arrN_set {l : List Int} {k : Nat} (x : Int) (hl : l.length = k) (hk : k < 11) : (arrN l).setIfInBounds k (.int .i64 x) = arrN (l ++ [x]) := by
  have : k = 0 ∨ k = 1 ∨ k = 2 ∨ k = 3 ∨ k = 4 ∨ k = 5 ∨ k = 6 ∨ k = 7 ∨ k = 8 ∨ k = 9 ∨ k = 10 := by omega
  subst hl
  rcases this with h | h | h | h | h | h | h | h | h | h | h <;> rw [h]
  · match l, h with | [], _ => rfl
  · match l, h with | [_], _ => rfl
  · match l, h with | [_, _], _ => rfl
  · match l, h with | [_, _, _], _ => rfl
  · match l, h with | [_, _, _, _], _ => rfl
  · match l, h with | [_, _, _, _, _], _ => rfl
  · match l, h with | [_, _, _, _, _, _], _ => rfl
  · match l, h with | [_, _, _, _, _, _, _], _ => rfl
  · match l, h with | [_, _, _, _, _, _, _, _], _ => rfl
  · match l, h with | [_, _, _, _, _, _, _, _, _], _ => rfl
  · match l, h with | [_, _, _, _, _, _, _, _, _, _], _ => rfl
theorem arrT_set {l : List ByteArray} {k : Nat} (x : ByteArray) (hl : l.length = k) (hk : k < 6) : (arrT l).setIfInBounds k (.string x) = arrT (l ++ [x]) := by
  have : k = 0 ∨ k = 1 ∨ k = 2 ∨ k = 3 ∨ k = 4 ∨ k = 5 := by omega
  subst hl
  rcases this with h | h | h | h | h | h <;> rw [h]
  · match l, h with | [], _ => rfl
  · match l, h with | [_], _ => rfl
  · match l, h with | [_, _], _ => rfl
  · match l, h with | [_, _, _], _ => rfl
  · match l, h with | [_, _, _, _], _ => rfl
  · match l, h with | [_, _, _, _, _], _ => rfl
theorem arrN_at (l : List Int) {k : Nat} (hk : k < 11) : ∃ x, (arrN l)[k]? = some (.int .i64 x) := by
  have : k = 0 ∨ k = 1 ∨ k = 2 ∨ k = 3 ∨ k = 4 ∨ k = 5 ∨ k = 6 ∨ k = 7 ∨ k = 8 ∨ k = 9 ∨ k = 10 := by omega
  rcases this with rfl | rfl | rfl | rfl | rfl | rfl | rfl | rfl | rfl | rfl | rfl <;> exact ⟨_, rfl⟩
theorem arrT_at (l : List ByteArray) {k : Nat} (hk : k < 6) : ∃ x, (arrT l)[k]? = some (.string x) := by
  have : k = 0 ∨ k = 1 ∨ k = 2 ∨ k = 3 ∨ k = 4 ∨ k = 5 := by omega
  rcases this with rfl | rfl | rfl | rfl | rfl | rfl <;> exact ⟨_, rfl⟩

/-- The cells of a reader of the document's. -/
def rcC (A : Option Addr) (n cp : Nat) (s : RS) : Array Value := #[.slice A n cp, .int .i64 s.p, .int .i64 s.code]
/-- A reader is stored. -/
def setRd (W : World) (g : Nat) (A : Option Addr) (n cp : Nat) (s : RS) : World := ((W.setCell ⟨g, 0, none⟩ (.slice A n cp)).setCell ⟨g, 1, none⟩ (.int .i64 s.p)).setCell ⟨g, 2, none⟩ (.int .i64 s.code)
/-- While the document reads: its reader at g, the result's variable the first new block. -/
structure TInv (w wr : World) (g : Nat) (A : Option Addr) (n cp : Nat) (s : RS) : Prop where
  rd : wr.heap[g]? = some (.cells (rcC A n cp s) 102 (0, 0))
  res : wr.heap[w.heap.size]? = some (.cells (cvR zeroCm (.slice none 0 0)) 37 (0, 0))
  below : Below w.heap.size w wr
  base : w.heap.size ≤ g
  ne : w.heap.size ≠ g
theorem TInv.later {w wr w' : World} {g : Nat} {A : Option Addr} {n cp : Nat} {s : RS} (h : TInv w wr g A n cp s) (hb : Below wr.heap.size wr w') : TInv w w' g A n cp s :=
  ⟨(hb.block _ (blk_lt h.rd)).trans h.rd, (hb.block _ (blk_lt h.res)).trans h.res, h.below.trans (hb.mono h.below.size), h.base, h.ne⟩
theorem TInv.set {w wr : World} {g : Nat} {A : Option Addr} {n cp : Nat} {s : RS} (h : TInv w wr g A n cp s) (s' : RS) : TInv w (setRd wr g A n cp s') g A n cp s' :=
  ⟨blk_set (blk_set (blk_set h.rd 0 _) 1 _) 2 _, blk_far (blk_far (blk_far h.res (p := ⟨g, 0, none⟩) h.ne _) (p := ⟨g, 1, none⟩) h.ne _) (p := ⟨g, 2, none⟩) h.ne _,
    ((h.below.setCell (p := ⟨g, 0, none⟩) h.base _).setCell (p := ⟨g, 1, none⟩) h.base _).setCell (p := ⟨g, 2, none⟩) h.base _, h.base, h.ne⟩
theorem setRd_far {W : World} {g k : Nat} {A : Option Addr} {n cp : Nat} {s : RS} {cs : Array Value} {t : TypeId} (h : W.heap[k]? = some (.cells cs t (0, 0))) (hk : k ≠ g) : (setRd W g A n cp s).heap[k]? = some (.cells cs t (0, 0)) :=
  blk_far (blk_far (blk_far h (p := ⟨g, 0, none⟩) hk _) (p := ⟨g, 1, none⟩) hk _) (p := ⟨g, 2, none⟩) hk _
theorem TInv.far {w wr : World} {g k : Nat} {A : Option Addr} {n cp : Nat} {s : RS} (h : TInv w wr g A n cp s) (h1 : w.heap.size ≤ k) (h2 : w.heap.size ≠ k) (h3 : g ≠ k) (o : Nat) (v : Value) : TInv w (wr.setCell ⟨k, o, none⟩ v) g A n cp s :=
  ⟨blk_far h.rd (p := ⟨k, o, none⟩) h3 v, blk_far h.res (p := ⟨k, o, none⟩) h2 v, h.below.setCell (p := ⟨k, o, none⟩) h1 v, h.base, h.ne⟩

theorem rcC_info (A : Option Addr) (n cp : Nat) (s : RS) : (Tryd.prog.info? 102).map (·.size) = some (rcC A n cp s).size := by
  show _ = some 3
  kernel_rfl
theorem rcC_one (A : Option Addr) (n cp : Nat) (s : RS) : (rcC A n cp s).all (·.oneCell') = true := by simp [rcC, Value.oneCell']
theorem TInv.setOne {w wb wc : World} {g : Nat} {A : Option Addr} {n cp : Nat} {s s' : RS} (h : TInv w wb g A n cp s) (hx : wc.heap[g]? = some (.cells (rcC A n cp s') 102 (0, 0))) (hs : SetsOne wb wc g) : TInv w wc g A n cp s' :=
  ⟨hx, hs.far h.res h.ne, h.below.trans (hs.2 _ h.base), h.base, h.ne⟩
/-- A command of the document's in memory. -/
def CmR (w : World) (g : Nat) (c : Cm) (bv : Value) : Prop := w.heap[g]? = some (.cells (cvR c bv) 37 (0, 0))
theorem CmR.set_bodies {w : World} {g : Nat} {l : List Int} {f : Bool} {t b b2 : List ByteArray} {bv bv2 : Value} (h : CmR w g (mkC l f t b) bv) : CmR (w.setCell ⟨g, 15, none⟩ bv2) g (mkC l f t b2) bv2 := by
  have := blk_set h 15 bv2
  rw [set_b (b2 := b2)] at this
  exact this
theorem SOwn.setRd {W : World} {base g n cp : Nat} {A : Option Addr} {v : Value} {l : List ByteArray} {s s' : RS} (h : SOwn W base v l) (hg : W.heap[g]? = some (.cells (rcC A n cp s) 102 (0, 0))) : SOwn (setRd W g A n cp s') base v l := by
  have g1 := blk_set hg 0 (.slice A n cp)
  have g2 := blk_set g1 1 (.int .i64 s'.p)
  exact own_setCell (own_setCell (own_setCell h (p := ⟨g, 0, none⟩) (own_ne h hg (by decide)) _) (p := ⟨g, 1, none⟩) (own_ne (own_setCell h (p := ⟨g, 0, none⟩) (own_ne h hg (by decide)) _) g1 (by decide)) _) (p := ⟨g, 2, none⟩) (own_ne (own_setCell (own_setCell h (p := ⟨g, 0, none⟩) (own_ne h hg (by decide)) _) (p := ⟨g, 1, none⟩) (own_ne (own_setCell h (p := ⟨g, 0, none⟩) (own_ne h hg (by decide)) _) g1 (by decide)) _) g2 (by decide)) _
theorem cvR_rinfo (c : Cm) (bv : Value) : (Tryd.prog.info? 37).map (·.size) = some (cvR c bv).size := by
  show _ = some 18
  kernel_rfl
theorem ret_rcmd {tmps : Array Value} {w : World} {g : Nat} {c : Cm} {bv : Value} (hp : tmps.getD 2 undef = .pointer (some ⟨g, 0, none⟩)) (hg : CmR w g c bv) :
    (results Tryd.f20 tmps).run Tryd.prog w = .ok (.tuple #[.agg (cvR c bv), tmps.getD 3 undef]) w := by
  rw [results_cell_tmp (p := 2) (u := 3) (ty := 37) (by kernel_rfl), hp]
  simp only [asAddr, Sem.run_pure, Result.andThen_ok]
  rw [run_loadVar_row w g 37 37 (cvR c bv) (0, 0) _ hg Tryd.underlying37 rfl (by kernel_rfl)]
  rfl
theorem TInv.result {w wr : World} {g n cp : Nat} {A : Option Addr} {s : RS} (h : TInv w wr g A n cp s) (c2 : Cm) (bv2 : Value) : CmR (wr.setRow w.heap.size (cvR c2 bv2)) w.heap.size c2 bv2 ∧ Below w.heap.size w (wr.setRow w.heap.size (cvR c2 bv2)) :=
  ⟨setRow_heap _ _ _ _ _ _ h.res, h.below.trans ⟨rfl, rfl, rfl, by simp, fun k hk => setRow_other _ _ _ _ (by omega)⟩⟩
theorem SOwn.setRowR {w : World} {base : Nat} {v : Value} {l : List ByteArray} {g : Nat} {cs old : Array Value} (h : SOwn w base v l) (hg : w.heap[g]? = some (.cells old 37 (0, 0))) : SOwn (w.setRow g cs) base v l :=
  own_move h (fun k hk => setRow_other _ _ _ _ (fun e => own_ne h hg (by decide) (by rw [hk, e])))

theorem three_new (w : World) (a b c : Obj) : (((w.alloc a).alloc b).alloc c).heap[w.heap.size]? = some a ∧ (((w.alloc a).alloc b).alloc c).heap[w.heap.size + 1]? = some b ∧ (((w.alloc a).alloc b).alloc c).heap[w.heap.size + 1 + 1]? = some c := by
  have h1 := heap_alloc_new w a
  have h2 := heap_alloc_new (w.alloc a) b
  have h3 := heap_alloc_new ((w.alloc a).alloc b) c
  have e1 : (w.alloc a).heap.size = w.heap.size + 1 := by simp
  have e2 : ((w.alloc a).alloc b).heap.size = w.heap.size + 1 + 1 := by simp
  rw [e1] at h2
  rw [e2] at h3
  have k1 := below_alloc (Below.refl (w.alloc a).heap.size (w.alloc a)) b
  have k2 := below_alloc (Below.refl ((w.alloc a).alloc b).heap.size ((w.alloc a).alloc b)) c
  exact ⟨(k2.block _ (by omega)).trans ((k1.block _ (by omega)).trans h1), (k2.block _ (by omega)).trans h2, h3⟩
theorem len10 {l : List Int} (h : l.length = 10) : ∃ a0 a1 a2 a3 a4 a5 a6 a7 a8 a9, l = [a0, a1, a2, a3, a4, a5, a6, a7, a8, a9] := by
  match l, h with | [_, _, _, _, _, _, _, _, _, _], _ => exact ⟨_, _, _, _, _, _, _, _, _, _, rfl⟩
theorem len6 {l : List ByteArray} (h : l.length = 6) : ∃ t0 t1 t2 t3 t4 t5, l = [t0, t1, t2, t3, t4, t5] := by
  match l, h with | [_, _, _, _, _, _], _ => exact ⟨_, _, _, _, _, _, rfl⟩

theorem code_bad {bs : List Int} (hby : Bytes bs) (h : stD bs (rdE bs).1 = 0) (hc : 1 < (rdB bs).2 ∨ 10 < (rdD bs).2 ∨ right (rdCm bs) = false) : readCode bs = 2 ∧ readCm bs = zeroCm := by
  have e : readCode bs = 2 := by rw [← code_ref hby]; unfold refCode; rw [if_pos h, if_pos hc]
  exact ⟨e, by unfold readCm; rw [if_neg (by rw [e]; decide)]⟩
theorem code_good {bs : List Int} (hby : Bytes bs) (h : stD bs (rdE bs).1 = 0) (hc : ¬ (1 < (rdB bs).2 ∨ 10 < (rdD bs).2 ∨ right (rdCm bs) = false)) : readCode bs = 0 ∧ readCm bs = rdCm bs := by
  have e : readCode bs = 0 := by rw [← code_ref hby]; unfold refCode; rw [if_pos h, if_neg hc]
  exact ⟨e, by unfold readCm; rw [if_pos e]⟩
theorem code_end {bs : List Int} (h : stD bs (rdE bs).1 ≠ 0) : readCode bs = stD bs (rdE bs).1 ∧ readCm bs = zeroCm := by
  have e : readCode bs = stD bs (rdE bs).1 := by unfold readCode; rw [if_neg h]
  exact ⟨e, by unfold readCm; rw [if_neg (by rw [e]; exact h)]⟩
attribute [local go_sem ↓] loadAt_ldR

set_option maxHeartbeats 8000000 in
set_option maxRecDepth 100000 in
theorem tread_any (A : Option Addr) (cp : Nat) (bs : List Int) (w : World) (h : BRead w A bs) (hl : bs.length ≤ 70368744177664) (hby : Bytes bs) (hcap : bs.length ≤ cp) :
    Calls Tryd.prog 20 #[.slice A bs.length cp] w fun e w' => (∃ bv, e = .returned (.tuple #[.agg (cvR (readCm bs) bv), .int .i64 (readCode bs)]) ∧ SOwn w' w.heap.size bv (readCm bs).bodies) ∧ Below w.heap.size w w' := by
  have HD := Lib.hid h
  have HY := Lib.hid hby
  clear h hby
  go_enter Tryd.func20, Tryd.ntmps20
  go_wp2_with fail
  generalize hW1 : ((w.alloc (.cells #[.int .i64 0, .int .i64 0, .int .i64 0, .string ⟨#[]⟩, .int .i64 0, .int .i64 0, .int .i64 0, .int .i64 0, .int .i64 0, .string ⟨#[]⟩, .bool false, .string ⟨#[]⟩, .string ⟨#[]⟩, .string ⟨#[]⟩, .string ⟨#[]⟩, .slice none 0 0, .int .i64 0, .int .i64 0] 37)).alloc (.cells #[.slice A bs.length cp, .int .i64 0, .int .i64 0] 102)).alloc (.cells #[.int .i64 0, .int .i64 0, .int .i64 0, .int .i64 0, .int .i64 0, .int .i64 0, .int .i64 0, .int .i64 0, .int .i64 0, .int .i64 0, .int .i64 0] 103) = W1
  have HI0 : Hid (TInv w W1 (w.heap.size + 1) A bs.length cp ⟨0, 0⟩) := by
    subst hW1
    exact Lib.hid ⟨(three_new _ _ _ _).2.1, (three_new _ _ _ _).1, below_alloc (below_alloc (below_alloc (Below.refl _ _) _) _) _, by omega, by omega⟩
  have HA0 : Hid (W1.heap[w.heap.size + 1 + 1]? = some (.cells (arrN []) 103 (0, 0))) := by
    subst hW1
    exact Lib.hid (three_new _ _ _ _).2.2
  clear hW1
  generalize hg1 : w.heap.size + 1 = g1 at HI0 HA0 ⊢
  generalize hg2 : g1 + 1 = g2 at HA0 ⊢
  have hne1 : g1 ≠ g2 := by omega
  have hne2 : g2 ≠ g1 := by omega
  have hne3 : w.heap.size ≠ g2 := by omega
  have hle2 : w.heap.size ≤ g2 := by omega
  clear hg1 hg2
  go_loopw [6] (fun i wr => ∃ k : Nat, k ≤ 11 ∧ i = .int .i64 k ∧ Hid (TInv w wr g1 A bs.length cp (runN bs k ⟨0, 0⟩).1) ∧ Hid (wr.heap[g2]? = some (.cells (arrN (runN bs k ⟨0, 0⟩).2) 103 (0, 0)))) (fun i _ => 11 - (intOf i).toNat)
  case atStart => exact ⟨0, by omega, rfl, HI0, HA0⟩
  case round =>
    obtain ⟨k, hk, rfl, HI, HA⟩ := hrel
    by_cases hlt : (k : Int) < 11
    · have z0 : wr.cell? ⟨g1, 0, none⟩ = some (.slice A bs.length cp) := (blk_cell HI.out.rd 0).trans rfl
      have z1 : wr.cell? ⟨g1, 1, none⟩ = some (.int .i64 (runN bs k ⟨0, 0⟩).1.p) := (blk_cell HI.out.rd 1).trans rfl
      have z2 : wr.cell? ⟨g1, 2, none⟩ = some (.int .i64 (runN bs k ⟨0, 0⟩).1.code) := (blk_cell HI.out.rd 2).trans rfl
      go_wp2_with fail
      refine (tnum_any A cp (runN bs k ⟨0, 0⟩).1 bs _ (HD.out.below HI.out.below) HY.out (runN_le k (Nat.zero_le _)) hl).mono ?_
      rintro e w2 ⟨rfl, hb2⟩
      have HI2 := Lib.hid (fun o => HI.out.later (below_alloc hb2 o))
      have HA2 : Hid (∀ o, (w2.alloc o).heap[g2]? = some (.cells (arrN (runN bs k ⟨0, 0⟩).2) 103 (0, 0))) := Lib.hid (fun o => ((below_alloc hb2 o).block g2 (blk_lt HA.out)).trans HA.out)
      obtain ⟨ox, hox⟩ := arrN_at (runN bs k ⟨0, 0⟩).2 (k := k) (by omega)
      unfold rdV
      clear z0 z1 z2 hb2
      have z0 : ∀ o, (w2.alloc o).cell? ⟨g1, 0, none⟩ = some (.slice A bs.length cp) := fun o => (blk_cell (HI2.out o).rd 0).trans rfl
      have z1 : ∀ o, (w2.alloc o).cell? ⟨g1, 1, none⟩ = some (.int .i64 (runN bs k ⟨0, 0⟩).1.p) := fun o => (blk_cell (HI2.out o).rd 1).trans rfl
      have z2 : ∀ o, (w2.alloc o).cell? ⟨g1, 2, none⟩ = some (.int .i64 (runN bs k ⟨0, 0⟩).1.code) := fun o => (blk_cell (HI2.out o).rd 2).trans rfl
      have f0 := fun o => blk_frozen (HI2.out o).rd 0
      have f1 := fun o => blk_frozen (HI2.out o).rd 1
      have f2 := fun o => blk_frozen (HI2.out o).rd 2
      have za : ∀ o, (w2.alloc o).cell? ⟨g2, k, none⟩ = some (.int .i64 ox) := fun o => (blk_cell (HA2.out o) k).trans hox
      have fa := fun o => blk_frozen (HA2.out o) k
      clear hox
      go_wp2_with fail
      go_roundw
      case rel =>
        refine ⟨k + 1, by omega, by go_num, Lib.hid (((HI2.out _).set (runN bs (k + 1) ⟨0, 0⟩).1).far hle2 hne3 hne1 k _), Lib.hid ?_⟩
        have := blk_set (setRd_far (g := g1) (A := A) (n := bs.length) (cp := cp) (s := (runN bs (k + 1) ⟨0, 0⟩).1) (HA2.out (.cells (rcC A bs.length cp (runN bs (k + 1) ⟨0, 0⟩).1) 102)) hne2) k (.int .i64 (stN bs (runN bs k ⟨0, 0⟩).1).2)
        rw [arrN_set _ (runN_len bs k _) (by omega)] at this
        exact this
      case measure => simp [intOf]; omega
    · obtain rfl : k = 11 := by omega
      have HI5 : Hid (TInv w wr g1 A bs.length cp (rdB bs).1) := HI
      have HA5 : Hid (wr.heap[g2]? = some (.cells (arrN ((rdA bs).2 ++ [((rdB bs).2 : Int)])) 103 (0, 0))) := HA
      clear HI HA HI0 HA0
      go_wp2_with fail
      have HT0 := Lib.hid (heap_alloc_new wr (.cells #[.string ⟨#[]⟩, .string ⟨#[]⟩, .string ⟨#[]⟩, .string ⟨#[]⟩, .string ⟨#[]⟩, .string ⟨#[]⟩] 106))
      have hal := below_alloc (Below.refl wr.heap.size wr) (.cells #[.string ⟨#[]⟩, .string ⟨#[]⟩, .string ⟨#[]⟩, .string ⟨#[]⟩, .string ⟨#[]⟩, .string ⟨#[]⟩] 106)
      have HI6 := Lib.hid (HI5.out.later hal)
      have HA6 := Lib.hid ((hal.block g2 (blk_lt HA5.out)).trans HA5.out)
      generalize wr.alloc (.cells #[.string ⟨#[]⟩, .string ⟨#[]⟩, .string ⟨#[]⟩, .string ⟨#[]⟩, .string ⟨#[]⟩, .string ⟨#[]⟩] 106) = W3 at HT0 HI6 HA6 ⊢
      clear hal
      have hgw := HI5.out.below.size
      have hga := blk_lt HA5.out
      have hgb := blk_lt HI5.out.rd
      clear HI5 HA5
      generalize wr.heap.size = g3 at hgw hga hgb HT0 ⊢
      have hne4 : g1 ≠ g3 := by omega
      have hne5 : g3 ≠ g1 := by omega
      have hne6 : g2 ≠ g3 := by omega
      have hne7 : w.heap.size ≠ g3 := by omega
      have hle3 : w.heap.size ≤ g3 := by omega
      go_loopw [10] (fun i wr => ∃ k : Nat, k ≤ 6 ∧ i = .int .i64 k ∧ Hid (TInv w wr g1 A bs.length cp (runT bs k (rdB bs).1).1) ∧ Hid (wr.heap[g2]? = some (.cells (arrN ((rdA bs).2 ++ [((rdB bs).2 : Int)])) 103 (0, 0))) ∧ Hid (wr.heap[g3]? = some (.cells (arrT (runT bs k (rdB bs).1).2) 106 (0, 0)))) (fun i _ => 6 - (intOf i).toNat)
      case atStart => exact ⟨0, by omega, rfl, HI6, HA6, HT0⟩
      case round =>
        obtain ⟨k, hk, rfl, HI, HA, HT⟩ := hrel
        by_cases hlt : (k : Int) < 6
        · have z0 : wr.cell? ⟨g1, 0, none⟩ = some (.slice A bs.length cp) := (blk_cell HI.out.rd 0).trans rfl
          have z1 : wr.cell? ⟨g1, 1, none⟩ = some (.int .i64 (runT bs k (rdB bs).1).1.p) := (blk_cell HI.out.rd 1).trans rfl
          have z2 : wr.cell? ⟨g1, 2, none⟩ = some (.int .i64 (runT bs k (rdB bs).1).1.code) := (blk_cell HI.out.rd 2).trans rfl
          go_wp2_with fail
          refine (ttext_any A cp (runT bs k (rdB bs).1).1 bs _ (HD.out.below HI.out.below) HY.out (runT_le k (stN_le (runN_le 10 (Nat.zero_le _)))) hl hcap).mono ?_
          rintro e w2 ⟨rfl, hb2⟩
          have HI2 := Lib.hid (fun o => HI.out.later (below_alloc hb2 o))
          have HA2 : Hid (∀ o, (w2.alloc o).heap[g2]? = some (.cells (arrN ((rdA bs).2 ++ [((rdB bs).2 : Int)])) 103 (0, 0))) := Lib.hid (fun o => ((below_alloc hb2 o).block g2 (blk_lt HA.out)).trans HA.out)
          have HT2 : Hid (∀ o, (w2.alloc o).heap[g3]? = some (.cells (arrT (runT bs k (rdB bs).1).2) 106 (0, 0))) := Lib.hid (fun o => ((below_alloc hb2 o).block g3 (blk_lt HT.out)).trans HT.out)
          obtain ⟨ox, hox⟩ := arrT_at (runT bs k (rdB bs).1).2 (k := k) (by omega)
          unfold rdV
          clear z0 z1 z2 hb2
          have z0 : ∀ o, (w2.alloc o).cell? ⟨g1, 0, none⟩ = some (.slice A bs.length cp) := fun o => (blk_cell (HI2.out o).rd 0).trans rfl
          have z1 : ∀ o, (w2.alloc o).cell? ⟨g1, 1, none⟩ = some (.int .i64 (runT bs k (rdB bs).1).1.p) := fun o => (blk_cell (HI2.out o).rd 1).trans rfl
          have z2 : ∀ o, (w2.alloc o).cell? ⟨g1, 2, none⟩ = some (.int .i64 (runT bs k (rdB bs).1).1.code) := fun o => (blk_cell (HI2.out o).rd 2).trans rfl
          have f0 := fun o => blk_frozen (HI2.out o).rd 0
          have f1 := fun o => blk_frozen (HI2.out o).rd 1
          have f2 := fun o => blk_frozen (HI2.out o).rd 2
          have za : ∀ o, (w2.alloc o).cell? ⟨g3, k, none⟩ = some (.string ox) := fun o => (blk_cell (HT2.out o) k).trans hox
          have fa := fun o => blk_frozen (HT2.out o) k
          clear hox
          go_wp2_with fail
          go_roundw
          case rel =>
            refine ⟨k + 1, by omega, by go_num, Lib.hid (((HI2.out _).set (runT bs (k + 1) (rdB bs).1).1).far hle3 hne7 hne4 k _), Lib.hid (blk_far (setRd_far (HA2.out _) hne2) (p := ⟨g3, k, none⟩) hne6 _), Lib.hid ?_⟩
            have := blk_set (setRd_far (g := g1) (A := A) (n := bs.length) (cp := cp) (s := (runT bs (k + 1) (rdB bs).1).1) (HT2.out (.cells (rcC A bs.length cp (runT bs (k + 1) (rdB bs).1).1) 102)) hne5) k (.string (stT bs 256 (runT bs k (rdB bs).1).1).2)
            rw [arrT_set _ (runT_len bs k _) (by omega)] at this
            exact this
          case measure => simp [intOf]; omega
        · obtain rfl : k = 6 := by omega
          have HI5 : Hid (TInv w wr g1 A bs.length cp (rdC bs).1) := HI
          have HT5 : Hid (wr.heap[g3]? = some (.cells (arrT (rdC bs).2) 106 (0, 0))) := HT
          have hlA := runN_len bs 10 ⟨0, 0⟩
          change (rdA bs).2.length = 10 at hlA
          have hlT := runT_len bs 6 (rdB bs).1
          change (rdC bs).2.length = 6 at hlT
          obtain ⟨a0, a1, a2, a3, a4, a5, a6, a7, a8, a9, hA⟩ := len10 hlA
          obtain ⟨t0, t1, t2, t3, t4, t5, hT⟩ := len6 hlT
          have hb3 := runN_bd (bs := bs) 10 (s := ⟨0, 0⟩) a3 (by change a3 ∈ (rdA bs).2; rw [hA]; simp)
          have hnb := stN_bd bs (rdA bs).1
          obtain ⟨nf, hnf⟩ : ∃ nf : Int, nf = ((rdB bs).2 : Int) := ⟨_, rfl⟩
          have hnf0 : 0 ≤ nf ∧ nf ≤ 9223372036854775807 := by rw [hnf]; change ((stN bs (rdA bs).1).2 : Int) ≥ 0 ∧ ((stN bs (rdA bs).1).2 : Int) ≤ _; omega
          have HA5 : Hid (wr.heap[g2]? = some (.cells (arrN [a0, a1, a2, a3, a4, a5, a6, a7, a8, a9, nf]) 103 (0, 0))) := Lib.hid (by have := HA.out; rwa [hA, ← hnf] at this)
          rw [hT] at HT5
          have HAA := Lib.hid hA
          have HTT := Lib.hid hT
          have HNF := Lib.hid hnf
          clear HI HT HI6 HA6 HT0 HA hA hT hlA hlT hnb hnf
          have za0 : wr.cell? ⟨g2, 0, none⟩ = some (.int .i64 a0) := (blk_cell HA5.out 0).trans rfl
          have za1 : wr.cell? ⟨g2, 1, none⟩ = some (.int .i64 a1) := (blk_cell HA5.out 1).trans rfl
          have za2 : wr.cell? ⟨g2, 2, none⟩ = some (.int .i64 a2) := (blk_cell HA5.out 2).trans rfl
          have za3 : wr.cell? ⟨g2, 3, none⟩ = some (.int .i64 a3) := (blk_cell HA5.out 3).trans rfl
          have za4 : wr.cell? ⟨g2, 4, none⟩ = some (.int .i64 a4) := (blk_cell HA5.out 4).trans rfl
          have zt0 : wr.cell? ⟨g3, 0, none⟩ = some (.string t0) := (blk_cell HT5.out 0).trans rfl
          have zt2 : wr.cell? ⟨g3, 2, none⟩ = some (.string t2) := (blk_cell HT5.out 2).trans rfl
          have zt3 : wr.cell? ⟨g3, 3, none⟩ = some (.string t3) := (blk_cell HT5.out 3).trans rfl
          have zt4 : wr.cell? ⟨g3, 4, none⟩ = some (.string t4) := (blk_cell HT5.out 4).trans rfl
          have zt5 : wr.cell? ⟨g3, 5, none⟩ = some (.string t5) := (blk_cell HT5.out 5).trans rfl
          go_wp2_with (first
            | ((with_reducible refine gate_dst (N := 13) rfl ?_); refine box_event ?hg (N := 13) ?hd (cs := #[.int .i64 0, .int .i64 0, .int .i64 0, .string ⟨#[]⟩, .int .i64 0, .int .i64 0, .int .i64 0, .int .i64 0, .int .i64 0, .string ⟨#[]⟩, .bool false, .string ⟨#[]⟩, .string ⟨#[]⟩, .string ⟨#[]⟩, .string ⟨#[]⟩, .slice none 0 0, .int .i64 0, .int .i64 0]) (t := 37) ?hr ?_; (case hd => rfl); (case hg => rfl); (case hr => first | (go_simp; done) | (go_simp; rfl)); intro g13 hg13 w13 hx13 hb13; have HG13 := Lib.hid hg13; have HX13 := Lib.hid hx13; have HB13 := Lib.hid hb13; clear hg13 hx13 hb13)
            | (refine store_event rfl 37 (.tmp 13) (.tmp 67) rfl g13 #[.int .i64 a0, .int .i64 a1, .int .i64 a2, .string t0, .int .i64 0, .int .i64 0, .int .i64 0, .int .i64 0, .int .i64 0, .string ⟨#[]⟩, .bool false, .string t2, .string t3, .string t4, .string t5, .slice none 0 0, .int .i64 (a3 - 1), .int .i64 a4] rfl rfl 37 #[.int .i64 0, .int .i64 0, .int .i64 0, .string ⟨#[]⟩, .int .i64 0, .int .i64 0, .int .i64 0, .int .i64 0, .int .i64 0, .string ⟨#[]⟩, .bool false, .string ⟨#[]⟩, .string ⟨#[]⟩, .string ⟨#[]⟩, .string ⟨#[]⟩, .slice none 0 0, .int .i64 0, .int .i64 0] HX13.out (by kernel_rfl) rfl (by simp [Value.oneCell']) ?_; intro w14 hx14 hs14; have HW14 := Lib.hid (HB13.out.trans (hs14.2 wr.heap.size (by have := HG13.out; omega))); have HX14 := Lib.hid hx14; have HA14 := Lib.hid ((HW14.out.block g2 (blk_lt HA5.out)).trans HA5.out); have HT14 := Lib.hid ((HW14.out.block g3 (blk_lt HT5.out)).trans HT5.out); have zb5 : w14.cell? ⟨g2, 5, none⟩ = some (.int .i64 a5) := (blk_cell HA14.out 5).trans rfl; have zb6 : w14.cell? ⟨g2, 6, none⟩ = some (.int .i64 a6) := (blk_cell HA14.out 6).trans rfl; have zb7 : w14.cell? ⟨g2, 7, none⟩ = some (.int .i64 a7) := (blk_cell HA14.out 7).trans rfl; have zb8 : w14.cell? ⟨g2, 8, none⟩ = some (.int .i64 a8) := (blk_cell HA14.out 8).trans rfl; have zb9 : w14.cell? ⟨g2, 9, none⟩ = some (.int .i64 a9) := (blk_cell HA14.out 9).trans rfl; have zb10 : w14.cell? ⟨g2, 10, none⟩ = some (.int .i64 nf) := (blk_cell HA14.out 10).trans rfl; have zbt : w14.cell? ⟨g3, 1, none⟩ = some (.string t1) := (blk_cell HT14.out 1).trans rfl; clear hx14 hs14)
            | (refine mid_event rfl 35 (.tmp 84) (.tmp 83) rfl g13 4 #[.int .i64 a5, .int .i64 a6, .int .i64 a7, .int .i64 a8, .int .i64 a9, .string t1, .bool (nf == 1)] rfl rfl 37 #[.int .i64 a0, .int .i64 a1, .int .i64 a2, .string t0, .int .i64 0, .int .i64 0, .int .i64 0, .int .i64 0, .int .i64 0, .string ⟨#[]⟩, .bool false, .string t2, .string t3, .string t4, .string t5, .slice none 0 0, .int .i64 (a3 - 1), .int .i64 a4] #[.int .i64 a0, .int .i64 a1, .int .i64 a2, .string t0, .int .i64 a5, .int .i64 a6, .int .i64 a7, .int .i64 a8, .int .i64 a9, .string t1, .bool (nf == 1), .string t2, .string t3, .string t4, .string t5, .slice none 0 0, .int .i64 (a3 - 1), .int .i64 a4] HX14.out (by kernel_rfl) (size_attr ..) (by simp [Value.oneCell']) (putAt_attr ..) ?_; intro w15 hx15 hs15; have HW15 := Lib.hid (HW14.out.trans (hs15.2 wr.heap.size (by have := HG13.out; omega))); have HX15 := Lib.hid hx15; have HI15 := Lib.hid (HI5.out.later HW15.out); have zr0 : w15.cell? ⟨g1, 0, none⟩ = some (.slice A bs.length cp) := (blk_cell HI15.out.rd 0).trans rfl; have zr1 : w15.cell? ⟨g1, 1, none⟩ = some (.int .i64 (rdC bs).1.p) := (blk_cell HI15.out.rd 1).trans rfl; have zr2 : w15.cell? ⟨g1, 2, none⟩ = some (.int .i64 (rdC bs).1.code) := (blk_cell HI15.out.rd 2).trans rfl; clear hx15 hs15 zb5 zb6 zb7 zb8 zb9 zb10 zbt))
          obtain ⟨g4, hg4⟩ : ∃ g4, g4 = g13 := ⟨_, rfl⟩
          rw [← hg4] at HX15 ⊢
          have hgs : g4 = wr.heap.size := hg4.trans HG13.out
          have hne8 : g1 ≠ g4 := by have := blk_lt HI5.out.rd; omega
          have hne9 : g4 ≠ g1 := by have := blk_lt HI5.out.rd; omega
          have hneA : g2 ≠ g4 := by have := blk_lt HA5.out; omega
          have hle4 : w.heap.size ≤ g4 := by have := HI5.out.below.size; omega
          have hneB : w.heap.size ≠ g4 := by have := blk_lt HI5.out.res; omega
          have HC5 : Hid (CmR w15 g4 (mkC (fixN (rdA bs).2) (((rdB bs).2 : Int) == 1) (rdC bs).2 []) (.slice none 0 0)) := Lib.hid (by
            rw [HAA.out, HTT.out, ← HNF.out]
            exact HX15.out)
          have HI6 := HI15
          have HA6 := Lib.hid ((HW15.out.block g2 (blk_lt HA5.out)).trans HA5.out)
          clear hg4 hgs HI5 HA5 HT5 HX13 HB13 HG13 HX14 HA14 HT14 HI15 HW14 HW15 HX15 za0 za1 za2 za3 za4 zt0 zt2 zt3 zt4 zt5 zr0 zr1 zr2
          refine (tnum_any A cp (rdC bs).1 bs _ (HD.out.below HI6.out.below) HY.out (runT_le 6 (stN_le (runN_le 10 (Nat.zero_le _)))) hl).mono ?_
          rintro e w2 ⟨rfl, hb2⟩
          have HI7 := Lib.hid (HI6.out.later hb2)
          have HA7 := Lib.hid ((hb2.block g2 (blk_lt HA6.out)).trans HA6.out)
          have HC7 : Hid (CmR w2 g4 (mkC (fixN (rdA bs).2) (((rdB bs).2 : Int) == 1) (rdC bs).2 []) (.slice none 0 0)) := Lib.hid ((hb2.block g4 (blk_lt HC5.out)).trans HC5.out)
          unfold rdV
          have z0 : w2.cell? ⟨g1, 0, none⟩ = some (.slice A bs.length cp) := (blk_cell HI7.out.rd 0).trans rfl
          have z1 : w2.cell? ⟨g1, 1, none⟩ = some (.int .i64 (rdC bs).1.p) := (blk_cell HI7.out.rd 1).trans rfl
          have z2 : w2.cell? ⟨g1, 2, none⟩ = some (.int .i64 (rdC bs).1.code) := (blk_cell HI7.out.rd 2).trans rfl
          have f0 := blk_frozen HI7.out.rd 0
          have f1 := blk_frozen HI7.out.rd 1
          have f2 := blk_frozen HI7.out.rd 2
          have HI8 : Hid (TInv w (setRd w2 g1 A bs.length cp (rdD bs).1) g1 A bs.length cp (rdD bs).1) := Lib.hid (HI7.out.set _)
          have HA8 : Hid ((setRd w2 g1 A bs.length cp (rdD bs).1).heap[g2]? = _) := Lib.hid (setRd_far HA7.out hne2)
          have HC8 : Hid (CmR (setRd w2 g1 A bs.length cp (rdD bs).1) g4 (mkC (fixN (rdA bs).2) (((rdB bs).2 : Int) == 1) (rdC bs).2 []) (.slice none 0 0)) := Lib.hid (setRd_far HC7.out hne9)
          clear hb2 HI6 HA6 HC5
          obtain ⟨many, hmany⟩ : ∃ many, (stN bs (rdC bs).1).2 = many := ⟨_, rfl⟩
          have HM : Hid ((rdD bs).2 = many) := Lib.hid hmany
          rw [hmany]
          obtain ⟨lim, hlim⟩ : ∃ lim, min many 10 = lim := ⟨_, rfl⟩
          have HL : Hid (min (rdD bs).2 10 = lim) := Lib.hid (by rw [HM.out, hlim])
          have hlim10 : lim ≤ 10 := by omega
          have hlimm : lim ≤ many := by omega
          have HLM := Lib.hid hlim
          clear hmany hlim
          go_wp2_with fail
          go_loopw [15] (fun i wr => ∃ (k : Nat) (bv : Value), k ≤ lim ∧ i = .int .i64 k ∧ Hid (TInv w wr g1 A bs.length cp (runT bs k (rdD bs).1).1) ∧ Hid (wr.heap[g2]? = some (.cells (arrN [a0, a1, a2, a3, a4, a5, a6, a7, a8, a9, nf]) 103 (0, 0))) ∧ Hid (CmR wr g4 (mkC (fixN (rdA bs).2) (((rdB bs).2 : Int) == 1) (rdC bs).2 (runT bs k (rdD bs).1).2) bv) ∧ Hid (SOwn wr w.heap.size bv (runT bs k (rdD bs).1).2)) (fun i _ => lim - (intOf i).toNat)
          case atStart => exact ⟨0, _, by omega, rfl, HI8, HA8, HC8, Lib.hid (SOwn.nil _ _)⟩
          case round =>
            obtain ⟨k, bv, hk, rfl, HI, HA, HC, HO⟩ := hrel
            by_cases hlt : k < lim
            · have hl1 : (k : Int) < (many : Int) := by omega
              have hl2 : (k : Int) < 10 := by omega
              have z0 : wr.cell? ⟨g1, 0, none⟩ = some (.slice A bs.length cp) := (blk_cell HI.out.rd 0).trans rfl
              have z1 : wr.cell? ⟨g1, 1, none⟩ = some (.int .i64 (runT bs k (rdD bs).1).1.p) := (blk_cell HI.out.rd 1).trans rfl
              have z2 : wr.cell? ⟨g1, 2, none⟩ = some (.int .i64 (runT bs k (rdD bs).1).1.code) := (blk_cell HI.out.rd 2).trans rfl
              go_wp2_with fail
              refine (ttext_any A cp (runT bs k (rdD bs).1).1 bs _ (HD.out.below HI.out.below) HY.out (runT_le k (stN_le (runT_le 6 (stN_le (runN_le 10 (Nat.zero_le _)))))) hl hcap).mono ?_
              rintro e w4 ⟨rfl, hb2⟩
              unfold rdV
              have HB2 := Lib.hid hb2
              have HLK : Hid (((runT bs k (rdD bs).1).2.length + 1) * 16 ≤ 140737488355328) := Lib.hid (by rw [runT_len]; omega)
              clear z0 z1 z2 hb2
              go_wp2_with (first
                | ((with_reducible refine gate_dst (N := 16) rfl ?_); refine box_event ?hg (N := 16) ?hd (cs := #[.slice none 0 0, .int .i64 0, .int .i64 0]) (t := 102) ?hr ?_; (case hd => rfl); (case hg => rfl); (case hr => first | (go_simp; done) | (go_simp; rfl)); intro g16 hg16 wa hxa hba; have HGa := Lib.hid hg16; have HXa := Lib.hid hxa; have HBa := Lib.hid hba; clear hg16 hxa hba)
                | (refine store_event rfl 102 (.tmp 16) (.tmp 102) rfl g16 (rcC A bs.length cp (runT bs (k + 1) (rdD bs).1).1) rfl rfl 102 #[.slice none 0 0, .int .i64 0, .int .i64 0] HXa.out (rcC_info _ _ _ _) rfl (rcC_one _ _ _ _) ?_; intro wb hxb hsb; have HWb := Lib.hid (HB2.out.trans ((HBa.out.trans (hsb.2 w4.heap.size (by have := HGa.out; omega))).mono HB2.out.size)); have HIb := Lib.hid (HI.out.later HWb.out); have HAb := Lib.hid ((HWb.out.block g2 (blk_lt HA.out)).trans HA.out); have HCb : Hid (CmR wb g4 (mkC (fixN (rdA bs).2) (((rdB bs).2 : Int) == 1) (rdC bs).2 (runT bs k (rdD bs).1).2) bv) := Lib.hid ((HWb.out.block g4 (blk_lt HC.out)).trans HC.out); have HOb := Lib.hid (HO.out.below HWb.out); have zq0 : wb.cell? ⟨g16, 0, none⟩ = some (.slice A bs.length cp) := (blk_cell hxb 0).trans rfl; have zq1 : wb.cell? ⟨g16, 1, none⟩ = some (.int .i64 (stT bs 256 (runT bs k (rdD bs).1).1).1.p) := (blk_cell hxb 1).trans rfl; have zq2 : wb.cell? ⟨g16, 2, none⟩ = some (.int .i64 (stT bs 256 (runT bs k (rdD bs).1).1).1.code) := (blk_cell hxb 2).trans rfl; clear hxb hsb)
                | (refine store_event rfl 102 (.tmp 4) (.tmp 104) rfl g1 (rcC A bs.length cp (runT bs (k + 1) (rdD bs).1).1) rfl rfl 102 (rcC A bs.length cp (runT bs k (rdD bs).1).1) HIb.out.rd (rcC_info _ _ _ _) rfl (rcC_one _ _ _ _) ?_; intro wc hxc hsc; have HIc := Lib.hid (HIb.out.setOne hxc hsc); have HAc := Lib.hid (hsc.far HAb.out hne2); have HCc : Hid (CmR wc g4 (mkC (fixN (rdA bs).2) (((rdB bs).2 : Int) == 1) (rdC bs).2 (runT bs k (rdD bs).1).2) bv) := Lib.hid (hsc.far HCb.out hne9); have HOc := Lib.hid (hsc.own HOb.out HIb.out.rd (by decide)); have zc : wc.cell? ⟨g4, 15, none⟩ = some bv := (blk_cell HCc.out 15).trans rfl; clear hxc hsc)
                | (at_builtin; refine print_append_of (w0 := w) Value.string w.heap.size rfl (.tmp 106) (.tmp 108) 24 9 (.string ⟨#[]⟩) 16 rfl Tryd.underlying24 info_str rfl (by omega) bv (runT bs k (rdD bs).1).2 (stT bs 256 (runT bs k (rdD bs).1).1).2 rfl rfl rfl HOc.out HIc.out.below HIc.out.below.size HLK.out ?_; intro v1 w9 hown hb9 hg9 hat9; obtain ⟨Aw, cw, rfl⟩ := own_slice hown; have HOW := Lib.hid hown; have HBW := Lib.hid hb9; have HGW := Lib.hid hg9; have HC9 := Lib.hid (blk_grown HCc.out hg9 (own_ne HOc.out HCc.out (by decide))); have zc9 : w9.cell? ⟨g4, 15, none⟩ = some bv := (blk_cell HC9.out 15).trans rfl; have fc9 := blk_frozen HC9.out 15; clear hown hb9 hg9 hat9))
              go_roundw
              case rel =>
                have hI9 : TInv w w9 g1 A bs.length cp (runT bs (k + 1) (rdD bs).1).1 := ⟨blk_grown HIc.out.rd HGW.out (own_ne HOc.out HIc.out.rd (by decide)), blk_grown HIc.out.res HGW.out (own_ne HOc.out HIc.out.res (by decide)), HBW.out, HIc.out.base, HIc.out.ne⟩
                refine ⟨k + 1, _, by omega, by go_num, Lib.hid (hI9.far hle4 hneB hne8 15 _), Lib.hid (blk_far (blk_grown HAc.out HGW.out (own_ne HOc.out HAc.out (by decide))) (p := ⟨g4, 15, none⟩) hneA _), Lib.hid (CmR.set_bodies HC9.out), Lib.hid ?_⟩
                have hw := own_setCell HOW.out (p := ⟨g4, 15, none⟩) (own_ne HOW.out HC9.out (by decide)) (.slice Aw ((runT bs k (rdD bs).1).2.length + 1) cw)
                rw [show (Value.slice Aw ((runT bs k (rdD bs).1).2 ++ [(stT bs 256 (runT bs k (rdD bs).1).1).2]).length cw) = .slice Aw ((runT bs k (rdD bs).1).2.length + 1) cw by simp] at hw
                exact hw
              case measure => simp [intOf]; omega
            · obtain rfl : k = lim := by omega
              have HI9 : Hid (TInv w wr g1 A bs.length cp (rdE bs).1) := Lib.hid (by have := HI.out; rw [← HL.out] at this; exact this)
              have HC9 : Hid (CmR wr g4 (rdCm bs) bv) := Lib.hid (by have := HC.out; rw [← HL.out] at this; exact this)
              have HO9 : Hid (SOwn wr w.heap.size bv (rdCm bs).bodies) := Lib.hid (by have := HO.out; rw [← HL.out] at this; exact this)
              clear HI HC HO HI8 HA8 HC8
              obtain ⟨Ab, cb, rfl, _, _⟩ := HO9.out.form
              have z0 : wr.cell? ⟨g1, 0, none⟩ = some (.slice A bs.length cp) := (blk_cell HI9.out.rd 0).trans rfl
              have z1 : wr.cell? ⟨g1, 1, none⟩ = some (.int .i64 (rdE bs).1.p) := (blk_cell HI9.out.rd 1).trans rfl
              have z2 : wr.cell? ⟨g1, 2, none⟩ = some (.int .i64 (rdE bs).1.code) := (blk_cell HI9.out.rd 2).trans rfl
              have hpE : (rdE bs).1.p ≤ bs.length := runT_le _ (stN_le (runT_le 6 (stN_le (runN_le 10 (Nat.zero_le _)))))
              have hmm : (many : Int) ≤ k ∨ (10 : Int) ≤ k := by have := HLM.out; omega
              have HMM := Lib.hid hmm
              clear hmm
              by_cases hkm : (k : Int) < (many : Int)
              all_goals
                (try have hk10 : (10 : Int) ≤ (k : Int) := HMM.out.resolve_left (by omega))
                go_wp2_with fail
                refine (tdone_any A cp (rdE bs).1 bs _ hl hpE).mono ?_
                rintro e w12 ⟨rfl, hb12⟩
                have HI12 := Lib.hid (HI9.out.later hb12)
                have HA12 := Lib.hid ((hb12.block g2 (blk_lt HA.out)).trans HA.out)
                have HC12 : Hid (CmR w12 g4 (rdCm bs) (.slice Ab (rdCm bs).bodies.length cb)) := Lib.hid ((hb12.block g4 (blk_lt HC9.out)).trans HC9.out)
                have HO12 := Lib.hid (HO9.out.below hb12)
                clear hb12 HI9 HA HC9 HO9 z0 z1 z2
                by_cases hd0 : stD bs (rdE bs).1 = 0
                · have HD0 := Lib.hid hd0
                  rw [hd0]
                  clear hd0
                  have zn : w12.cell? ⟨g2, 10, none⟩ = some (.int .i64 nf) := (blk_cell HA12.out 10).trans rfl
                  by_cases hn1 : 1 < nf
                  · clear hkm
                    obtain ⟨hc2, hcm⟩ := code_bad HY.out HD0.out (.inl (by have := HNF.out; omega))
                    have HC2 := Lib.hid hc2
                    have HCM := Lib.hid hcm
                    clear hc2 hcm
                    go_wp2_with (refine wpList_store_row rfl 37 (.tmp 2) (.tmp 129) rfl w.heap.size (cvR zeroCm (.slice none 0 0)) rfl rfl 37 (cvR zeroCm (.slice none 0 0)) HI12.out.res (cvR_rinfo _ _) rfl (cvR_one _ _ _ _) ?_)
                    obtain ⟨r1, r2⟩ := HI12.out.result zeroCm (.slice none 0 0)
                    refine bodyPost_ret (v := .tuple #[.agg (cvR zeroCm (.slice none 0 0)), .int .i64 2]) (ret_rcmd rfl r1) rfl ⟨⟨.slice none 0 0, by rw [HCM.out, HC2.out], by rw [HCM.out]; exact SOwn.nil _ _⟩, r2⟩
                  · by_cases hm10 : (10 : Int) < (many : Int)
                    · clear hkm
                      obtain ⟨hc2, hcm⟩ := code_bad HY.out HD0.out (.inr (.inl (by have := HM.out; omega)))
                      have HC2 := Lib.hid hc2
                      have HCM := Lib.hid hcm
                      clear hc2 hcm
                      go_wp2_with (refine wpList_store_row rfl 37 (.tmp 2) (.tmp 129) rfl w.heap.size (cvR zeroCm (.slice none 0 0)) rfl rfl 37 (cvR zeroCm (.slice none 0 0)) HI12.out.res (cvR_rinfo _ _) rfl (cvR_one _ _ _ _) ?_)
                      obtain ⟨r1, r2⟩ := HI12.out.result zeroCm (.slice none 0 0)
                      refine bodyPost_ret (v := .tuple #[.agg (cvR zeroCm (.slice none 0 0)), .int .i64 2]) (ret_rcmd rfl r1) rfl ⟨⟨.slice none 0 0, by rw [HCM.out, HC2.out], by rw [HCM.out]; exact SOwn.nil _ _⟩, r2⟩
                    · have l0 := ldR_of HC12.out
                      have hob : Kd.string.C w12 Ab (rdCm bs).bodies.length (rdCm bs).bodies := by
                        obtain ⟨A2, c2, e2, _, h2⟩ := HO12.out.form
                        injection e2 with e2 _ _
                        rw [e2]; exact h2
                      have HOB := Lib.hid hob
                      clear hob hkm
                      go_wp2_with fail
                      refine (tright_any (rdCm bs) Ab cb w12 HOB.out).mono ?_
                      rintro e w13 ⟨rfl, hb13⟩
                      have HI12 := Lib.hid (HI12.out.later hb13)
                      have HC13 : Hid (CmR w13 g4 (rdCm bs) (.slice Ab (rdCm bs).bodies.length cb)) := Lib.hid ((hb13.block g4 (blk_lt HC12.out)).trans HC12.out)
                      have HO13 := Lib.hid (HO12.out.below hb13)
                      clear hb13 l0
                      cases hrr : right (rdCm bs) with
                      | false =>
                        obtain ⟨hc2, hcm⟩ := code_bad HY.out HD0.out (.inr (.inr hrr))
                        have HC2 := Lib.hid hc2
                        have HCM := Lib.hid hcm
                        clear hc2 hcm
                        go_wp2_with (refine wpList_store_row rfl 37 (.tmp 2) (.tmp 129) rfl w.heap.size (cvR zeroCm (.slice none 0 0)) rfl rfl 37 (cvR zeroCm (.slice none 0 0)) HI12.out.res (cvR_rinfo _ _) rfl (cvR_one _ _ _ _) ?_)
                        obtain ⟨r1, r2⟩ := HI12.out.result zeroCm (.slice none 0 0)
                        refine bodyPost_ret (v := .tuple #[.agg (cvR zeroCm (.slice none 0 0)), .int .i64 2]) (ret_rcmd rfl r1) rfl ⟨⟨.slice none 0 0, by rw [HCM.out, HC2.out], by rw [HCM.out]; exact SOwn.nil _ _⟩, r2⟩
                      | true =>
                        obtain ⟨hc2, hcm⟩ := code_good HY.out HD0.out (by rintro (h | h | h); · have := HNF.out; omega
                                                                          · have := HM.out; omega
                                                                          · rw [hrr] at h; exact absurd h (by decide))
                        have HC2 := Lib.hid hc2
                        have HCM := Lib.hid hcm
                        clear hc2 hcm hrr
                        have l0 := ldR_of HC13.out
                        go_wp2_with (refine wpList_store_row rfl 37 (.tmp 2) (.tmp 130) rfl w.heap.size (cvR (rdCm bs) (.slice Ab (rdCm bs).bodies.length cb)) rfl rfl 37 (cvR zeroCm (.slice none 0 0)) HI12.out.res (cvR_rinfo _ _) rfl (cvR_one _ _ _ _) ?_)
                        obtain ⟨r1, r2⟩ := HI12.out.result (rdCm bs) (.slice Ab (rdCm bs).bodies.length cb)
                        refine bodyPost_ret (v := .tuple #[.agg (cvR (rdCm bs) (.slice Ab (rdCm bs).bodies.length cb)), .int .i64 0]) (ret_rcmd rfl r1) rfl ⟨⟨_, by rw [HCM.out, HC2.out], by rw [HCM.out]; exact HO13.out.setRowR HI12.out.res⟩, r2⟩
                · obtain ⟨hc2, hcm⟩ := code_end hd0
                  obtain ⟨dd, hdd⟩ : ∃ dd, dd = stD bs (rdE bs).1 := ⟨_, rfl⟩
                  have hne : (dd != 0) = true := by rw [hdd]; simpa using hd0
                  have HDD := Lib.hid (tdone_any A cp (rdE bs).1 bs w12 hl hpE)
                  rw [← hdd] at hc2 HDD ⊢
                  have HC2 := Lib.hid hc2
                  have HCM := Lib.hid hcm
                  clear hc2 hcm hd0 hdd hkm
                  have z0 : w12.cell? ⟨g1, 0, none⟩ = some (.slice A bs.length cp) := (blk_cell HI12.out.rd 0).trans rfl
                  have z1 : w12.cell? ⟨g1, 1, none⟩ = some (.int .i64 (rdE bs).1.p) := (blk_cell HI12.out.rd 1).trans rfl
                  have z2 : w12.cell? ⟨g1, 2, none⟩ = some (.int .i64 (rdE bs).1.code) := (blk_cell HI12.out.rd 2).trans rfl
                  go_wp2_with fail
                  refine HDD.out.mono ?_
                  rintro e w13 ⟨rfl, hb13⟩
                  have HI13 := Lib.hid (HI12.out.later hb13)
                  clear hb13 HDD
                  go_wp2_with (refine wpList_store_row rfl 37 (.tmp 2) (.tmp 114) rfl w.heap.size (cvR zeroCm (.slice none 0 0)) rfl rfl 37 (cvR zeroCm (.slice none 0 0)) HI13.out.res (cvR_rinfo _ _) rfl (cvR_one _ _ _ _) ?_)
                  obtain ⟨r1, r2⟩ := HI13.out.result zeroCm (.slice none 0 0)
                  refine bodyPost_ret (v := .tuple #[.agg (cvR zeroCm (.slice none 0 0)), .int .i64 dd]) (ret_rcmd rfl r1) rfl ⟨⟨.slice none 0 0, by rw [HCM.out, HC2.out], by rw [HCM.out]; exact SOwn.nil _ _⟩, r2⟩
end Go.Proofs.YtlgippliihgcjaaDoor.C
