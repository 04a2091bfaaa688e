import Derived.Test.YtajbngkcgbehlaaSxT
namespace Go.SX
open Go.RowKit

/-! ### Integers in rows -/
def ints (xs : List Int) : List (List Value) := xs.map fun x => [.int .i64 x]
theorem ints_length (xs : List Int) : (ints xs).length = xs.length := by simp [ints]
theorem ints_get {xs : List Int} {k : Nat} (h : k < xs.length) : (ints xs)[k]? = some [.int .i64 xs[k]] := by simp [ints, h]
theorem ints_row {xs : List Int} : ∀ r ∈ ints xs, r.length = 1 ∧ ∀ v ∈ r, v.oneCell' = true := by
  intro r hr
  simp only [ints, List.mem_map] at hr
  obtain ⟨x, _, rfl⟩ := hr
  exact ⟨rfl, fun v hv => by simp at hv; subst hv; rfl⟩

theorem cell_block {w : World} {a : Addr} {v : Value} (h : w.cell? a = some v) : a.block < w.heap.size := by
  unfold World.cell? at h
  split at h
  · rename_i c _ _ hb; exact lt_size_of_some hb
  · cases h
theorem cell_same {w w' : World} {a : Addr} (h : w'.heap[a.block]? = w.heap[a.block]?) : w'.cell? a = w.cell? a := by
  unfold World.cell?; rw [h]
theorem rows_base {w w' : World} {R : Nat → Prop} {base : Option Addr} {k : Nat} {xs : List (List Value)} (hb : (baseA w).holds R w') (h : RowsI w base k xs) : RowsI w' base k xs := by
  rcases h with h | ⟨a, ha, h⟩
  · exact .inl h
  · refine .inr ⟨a, ha, fun i r hi j v hj => ?_⟩
    have := h i r hi j v hj
    rw [cell_same (hb _ (cell_block this)).2]; exact this
theorem rows_ext {w w' : World} {base : Option Addr} {k : Nat} {xs : List (List Value)} (he : Ext w w') (h : RowsI w base k xs) : RowsI w' base k xs := by
  rcases h with h | ⟨a, ha, h⟩
  · exact .inl h
  · refine .inr ⟨a, ha, fun i r hi j v hj => ?_⟩
    have := h i r hi j v hj
    rw [cell_same (he.block _ (cell_block this))]; exact this
theorem rows_cons {a : Addr} {w : World} {k j : Nat} {xs : List (List Value)} (hj : j < xs.length) {base : Option Addr} (h : RowsI w base k xs) (ha : base = some a) : RowsI w (some a) k xs := by subst ha; exact h
end Go.SX
