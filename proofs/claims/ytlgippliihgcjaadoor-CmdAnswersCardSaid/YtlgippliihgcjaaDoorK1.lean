/- A whole struct stored, a slice literal, as events of a walk. -/
import Derived.Test.YtlgippliihgcjaaDoorC0
import Derived.Laws.Tables
import Derived.Deep.MidRow
namespace Go.Proofs.YtlgippliihgcjaaDoor.C
set_option linter.unusedVariables false
set_option linter.unusedSimpArgs false
open Go.RowKit Go.Proofs.YtlgippliihgcjaaDoorW.PrintWords

section
variable {P : Program} {ops : Array Oper} {rest : List Oper} {o : Oper} {a : Act} {Q : Exit → Act → World → Prop}
/-- A slice literal is made. -/
theorem lit_event {W : World} (hgd : o.guard = none) {N : Tmp} (_hd : o.dst = some N) {cs : Array Value} {t : TypeId} (n : Nat)
    (hrun : (execOp a.eval o).run P W = .ok (.value (.slice (some ⟨W.heap.size, 0, none⟩) n n)) (W.alloc (.cells cs t (0, 0))))
    (h : ∀ g, g = W.heap.size → ∀ w1, w1.heap[g]? = some (.cells cs t (0, 0)) → Below W.heap.size W w1 → wpList P ops Q rest (a.put o.dst (.slice (some ⟨g, 0, none⟩) n n)) w1) : wpList P ops Q (o :: rest) a W :=
  Kd.event_run hgd hrun (h _ rfl _ (blk_new W _) (below_alloc (Below.refl _ _) _))
/-- What a store into a block g leaves. -/
def SetsOne (W w1 : World) (g : Nat) : Prop := (∀ k, k ≠ g → w1.heap[k]? = W.heap[k]?) ∧ ∀ B, B ≤ g → Below B W w1
theorem SetsOne.far {W w1 : World} {g k : Nat} {o : Obj} (h : SetsOne W w1 g) (hk : W.heap[k]? = some o) (hne : k ≠ g) : w1.heap[k]? = some o := (h.1 k hne).trans hk
theorem SetsOne.own {W w1 : World} {g : Nat} {base : Nat} {e : TypeId} {size n : Nat} {v : Value} {xs : List Value} {t : TypeId} {cs : Array Value} (h : SetsOne W w1 g) (hv : W.ownsRow base e size v n xs) (hg : W.heap[g]? = some (.cells cs t (0, 0))) (hne : e ≠ t) : w1.ownsRow base e size v n xs :=
  own_move hv (fun k hk => h.1 k (fun he => own_ne hv hg hne (by rw [hk, he])))
/-- A whole struct is stored at the head of its block. -/
theorem store_event {W : World} (hgd : o.guard = none) (ty : TypeId) (x y : Operand) (ho : o.op = .store ty x y) (g : Nat) (cells : Array Value) (hx : a.eval x = .pointer (some ⟨g, 0, none⟩)) (hy : a.eval y = .agg cells)
    (t : TypeId) (old : Array Value) (hg : W.heap[g]? = some (.cells old t (0, 0))) (hi : (P.info? ty).map (·.size) = some cells.size) (hold : old.size = cells.size) (h1 : cells.all (·.oneCell') = true)
    (h : ∀ w1, w1.heap[g]? = some (.cells cells t (0, 0)) → SetsOne W w1 g → wpList P ops Q rest (a.put o.dst undef) w1) : wpList P ops Q (o :: rest) a W :=
  wpList_store_row hgd ty x y ho g cells hx hy t old hg hi hold h1
    (h _ (setRow_heap _ _ _ _ _ _ hg) ⟨fun k hk => setRow_other _ _ _ _ hk, fun _ hB => ⟨rfl, rfl, rfl, by simp, fun k hk => setRow_other _ _ _ _ (by omega)⟩⟩)
/-- Cells put over a row's from o on. -/
def putAt (cs : Array Value) : Nat → List Value → Array Value
  | _, [] => cs
  | o, v :: r => putAt (cs.setIfInBounds o v) (o + 1) r
theorem blk_setCells {g : Nat} {t : TypeId} : ∀ (vs : List Value) (o : Nat) (w : World) (cs : Array Value), w.heap[g]? = some (.cells cs t (0, 0)) → (w.setCells g o vs).heap[g]? = some (.cells (putAt cs o vs) t (0, 0))
  | [], _, _, _, h => h
  | v :: r, o, w, cs, h => by
    rw [World.setCells, putAt]
    exact blk_setCells r (o + 1) _ _ (blk_set h o v)
theorem putAt_attr (x0 x1 x2 x3 x4 x5 x6 x7 x8 x9 x10 x11 x12 x13 x14 x15 x16 x17 y0 y1 y2 y3 y4 y5 y6 : Value) : putAt #[x0, x1, x2, x3, x4, x5, x6, x7, x8, x9, x10, x11, x12, x13, x14, x15, x16, x17] 4 (#[y0, y1, y2, y3, y4, y5, y6] : Array Value).toList = #[x0, x1, x2, x3, y0, y1, y2, y3, y4, y5, y6, x11, x12, x13, x14, x15, x16, x17] := by
  simp [putAt]
theorem size_attr (x0 x1 x2 x3 x4 x5 x6 x7 x8 x9 x10 x11 x12 x13 x14 x15 x16 x17 y0 y1 y2 y3 y4 y5 y6 : Value) : 4 + (#[y0, y1, y2, y3, y4, y5, y6] : Array Value).size ≤ (#[x0, x1, x2, x3, x4, x5, x6, x7, x8, x9, x10, x11, x12, x13, x14, x15, x16, x17] : Array Value).size := by
  simp
/-- A struct is stored in the midst of a block. -/
theorem mid_event {W : World} (hgd : o.guard = none) (ty : TypeId) (x y : Operand) (ho : o.op = .store ty x y) (g off : Nat) (cells : Array Value) (hx : a.eval x = .pointer (some ⟨g, off, none⟩)) (hy : a.eval y = .agg cells)
    (t : TypeId) (old new : Array Value) (hg : W.heap[g]? = some (.cells old t (0, 0))) (hi : (P.info? ty).map (·.size) = some cells.size) (hsz : off + cells.size ≤ old.size) (h1 : cells.all (·.oneCell') = true) (hnew : putAt old off cells.toList = new)
    (h : ∀ w1, w1.heap[g]? = some (.cells new t (0, 0)) → SetsOne W w1 g → wpList P ops Q rest (a.put o.dst undef) w1) : wpList P ops Q (o :: rest) a W := by
  refine wpList_store_mid hgd ty x y ho g off cells hx hy (fun j hj => ⟨?_, blk_frozen hg _⟩) hi h1 (h _ ?_ ⟨fun k hk => setCells_far _ _ _ hk, fun B hB => ?_⟩)
  · rw [blk_cell hg, Array.getElem?_eq_getElem (by omega)]; rfl
  · rw [← hnew]; exact blk_setCells _ _ _ _ hg
  · obtain ⟨e1, e2, e3, e4⟩ := setCells_same g cells.toList off W
    exact ⟨e1, e2, e3, Nat.le_of_eq e4.symm, fun k hk => setCells_far _ _ _ (by omega)⟩
end
end Go.Proofs.YtlgippliihgcjaaDoor.C
