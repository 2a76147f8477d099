/- The table of the program's types, as the interpreter reads them. (Printed by wip/mktab.py.) -/
import Derived.Test.YtlminbeepaacjaaFw19
import Derived.Test.YtlminbeepaacjaaProg
import Derived.KernelRfl
namespace Go.Proofs.Ytlminbeepaacjaa
set_option linter.unusedVariables false
def tabL : List (Nat × Ty) := [
  (2, { ok := true, size := 1, small := true, zero := [.int .i64 0], kind := some .i64 }),
  (3, { ok := true, size := 1, small := true, zero := [.int .i64 0], kind := some .i64 }),
  (4, { ok := true, size := 1, small := true, zero := [.bool false], isBool := true }),
  (5, { ok := true, size := 1, small := true, zero := [.int .u8 0], kind := some .u8 }),
  (6, { ok := true, size := 1, small := true, zero := [.int .u8 0], kind := some .u8 }),
  (7, { ok := true, agg := true, size := 4, small := true, zero := [.int .i64 0, .int .i64 0, .bool false, .int .u8 0], offs := [(0, 1), (1, 1), (2, 1), (3, 1)], isStruct := true }),
  (8, { ok := true, agg := true, size := 4, small := true, zero := [.int .i64 0, .int .i64 0, .bool false, .int .u8 0], offs := [(0, 1), (1, 1), (2, 1), (3, 1)], isStruct := true }),
  (9, { ok := true, size := 1, small := true, zero := [.str ⟨#[]⟩], isStr := true }),
  (10, { ok := true, size := 1, small := true, zero := [.str ⟨#[]⟩], isStr := true }),
  (11, { ok := true, size := 1, small := true, zero := [.str ⟨#[]⟩], isStr := true }),
  (12, { ok := true, size := 1, small := true, zero := [.int .u64 0], kind := some .u64 }),
  (13, { ok := true, agg := true, size := 2, small := true, zero := [.str ⟨#[]⟩, .int .u64 0], offs := [(0, 1), (1, 1)], isStruct := true }),
  (14, { ok := true, agg := true, size := 2, small := true, zero := [.str ⟨#[]⟩, .int .u64 0], offs := [(0, 1), (1, 1)], isStruct := true }),
  (18, { ok := true, agg := true, size := 1, small := true, zero := [.undef], offs := [(0, 1)], isStruct := true }),
  (19, { ok := true, agg := true, size := 1, small := true, zero := [.undef], offs := [(0, 1)], isStruct := true }),
  (21, { ok := true, size := 1, small := true, zero := [.int .i32 0], kind := some .i32 }),
  (22, { ok := true, size := 1, small := true, elem := some 3, zero := [.nil] }),
  (25, { ok := true, size := 1, small := true, elem := some 64, zero := [.nil] }),
  (26, { ok := true, agg := true, size := 2, small := true, zero := [.nil, .nil], offs := [(0, 1), (1, 1)], isStruct := true }),
  (27, { ok := true, agg := true, size := 2, small := true, zero := [.nil, .nil], offs := [(0, 1), (1, 1)], isStruct := true }),
  (32, { ok := true, agg := true, size := 7, small := true, zero := [.int .i64 0, .int .i64 0, .int .i64 0, .int .i64 0, .int .i64 0, .int .i64 0, .int .i64 0], offs := [(0, 1), (1, 1), (2, 1), (3, 1), (4, 1), (5, 1), (6, 1)], isStruct := true }),
  (33, { ok := true, agg := true, size := 7, small := true, zero := [.int .i64 0, .int .i64 0, .int .i64 0, .int .i64 0, .int .i64 0, .int .i64 0, .int .i64 0], offs := [(0, 1), (1, 1), (2, 1), (3, 1), (4, 1), (5, 1), (6, 1)], isStruct := true }),
  (34, { ok := true, size := 1, small := true, elem := some 33, zero := [.nil] }),
  (41, { ok := true, size := 1, small := true, elem := some 22, zero := [.nil] }),
  (42, { ok := true, size := 1, small := true, zero := [.int .i64 0], kind := some .i64 }),
  (50, { ok := true, agg := true, size := 4, small := true, zero := [.bool false, .nil, .int .i64 0, .nil], offs := [(0, 1), (1, 1), (2, 1), (3, 1)], isStruct := true }),
  (51, { ok := true, agg := true, size := 4, small := true, zero := [.bool false, .nil, .int .i64 0, .nil], offs := [(0, 1), (1, 1), (2, 1), (3, 1)], isStruct := true }),
  (56, { ok := true, size := 1, small := true, zero := [.int .u64 0], kind := some .u64 }),
  (60, { ok := true, agg := true, size := 2, small := true, zero := [.nil, .int .i64 0], offs := [(0, 1), (1, 1)], isStruct := true }),
  (61, { ok := true, agg := true, size := 2, small := true, zero := [.nil, .int .i64 0], offs := [(0, 1), (1, 1)], isStruct := true }),
  (63, { ok := true, agg := true, size := 3, small := true, zero := [.nil, .int .i64 0, .int .i64 0], offs := [(0, 1), (1, 1), (2, 1)], isStruct := true }),
  (64, { ok := true, agg := true, size := 3, small := true, zero := [.nil, .int .i64 0, .int .i64 0], offs := [(0, 1), (1, 1), (2, 1)], isStruct := true }),
  (74, { ok := true, size := 1, small := true, elem := some 4, zero := [.nil] }),
  (85, { ok := true, size := 1, small := true, zero := [.int .u32 0], kind := some .u32 }),
  (88, { ok := true, size := 1, small := true, zero := [.int .u64 0], kind := some .u64 }),
  (92, { ok := true, agg := true, size := 4, small := true, zero := [.undef, .undef, .undef, .str ⟨#[]⟩], offs := [(0, 1), (1, 1), (2, 1), (3, 1)], isStruct := true }),
  (93, { ok := true, agg := true, size := 4, small := true, zero := [.undef, .undef, .undef, .str ⟨#[]⟩], offs := [(0, 1), (1, 1), (2, 1), (3, 1)], isStruct := true }),
  (94, { ok := true, agg := true, size := 0, small := true, zero := [] }),
  (95, { ok := true, agg := true, size := 0, small := true, zero := [], offs := [(0, 0)], isStruct := true }),
  (96, { ok := true, agg := true, size := 0, small := true, zero := [], offs := [(0, 0)], isStruct := true }),
  (97, { ok := true, size := 1, small := true, zero := [.int .u8 0], kind := some .u8 }),
  (98, { ok := true, size := 1, small := true, zero := [.int .u8 0], kind := some .u8 }),
  (101, { ok := true, size := 1, small := true, zero := [.int .i32 0], kind := some .i32 }),
  (102, { ok := true, size := 1, small := true, zero := [.int .i32 0], kind := some .i32 }),
  (103, { ok := true, agg := true, size := 11, small := true, zero := [.int .u64 0, .int .u64 0, .int .u32 0, .int .u8 0, .int .u8 0, .int .u8 0, .int .u8 0, .undef, .undef, .int .i32 0, .int .i32 0], offs := [(0, 1), (1, 1), (2, 1), (3, 1), (4, 1), (5, 1), (6, 1), (7, 1), (8, 1), (9, 1), (10, 1)], isStruct := true }),
  (104, { ok := true, agg := true, size := 11, small := true, zero := [.int .u64 0, .int .u64 0, .int .u32 0, .int .u8 0, .int .u8 0, .int .u8 0, .int .u8 0, .undef, .undef, .int .i32 0, .int .i32 0], offs := [(0, 1), (1, 1), (2, 1), (3, 1), (4, 1), (5, 1), (6, 1), (7, 1), (8, 1), (9, 1), (10, 1)], isStruct := true })]
def lkT : List (Nat × Ty) → Nat → Ty
  | [], _ => {}
  | (j, v) :: l, i => bif Nat.beq i j then v else lkT l i
def tab (t : Nat) : Ty := lkT tabL t
set_option maxRecDepth 100000 in
theorem tabL_eq : tabL = [2, 3, 4, 5, 6, 7, 8, 9, 10, 11, 12, 13, 14, 18, 19, 21, 22, 25, 26, 27, 32, 33, 34, 41, 42, 50, 51, 56, 60, 61, 63, 64, 74, 85, 88, 92, 93, 94, 95, 96, 97, 98, 101, 102, 103, 104].map (fun t => (t, tyOf Try.prog t)) := by kernel_rfl
theorem lkT_ok {P : Program} : ∀ {ks : List Nat} {t : Nat}, (lkT (ks.map fun t => (t, tyOf P t)) t).ok = true → lkT (ks.map fun t => (t, tyOf P t)) t = tyOf P t
  | [], t, h => by simp [lkT] at h
  | k :: ks, t, h => by
    simp only [List.map_cons, lkT] at h ⊢
    by_cases e : t = k
    · subst e; simp
    · rw [beq_ne e] at h ⊢; exact lkT_ok h
theorem tabOk : TabOk Try.prog tab := fun t h => by
  unfold tab at h ⊢
  rw [tabL_eq] at h ⊢
  exact lkT_ok h
theorem mixed : Try.prog.follows .mixedOrders = true := by kernel_rfl
end Go.Proofs.Ytlminbeepaacjaa
