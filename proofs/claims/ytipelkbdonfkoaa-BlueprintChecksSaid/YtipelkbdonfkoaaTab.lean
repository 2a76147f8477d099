/- The table of the program's types, as the interpreter reads them. (Printed by wip/mktab.py.) -/
import Derived.Test.YtipelkbdonfkoaaFw19
import Derived.Test.YtipelkbdonfkoaaProg
import Derived.KernelRfl
namespace Go.Proofs.Ytipelkbdonfkoaa
set_option linter.unusedVariables false
def tabL : List (Nat × Ty) := [
  (2, { ok := true, size := 1, small := true, zero := [.int .i64 0], kind := some .i64 }),
  (3, { ok := true, size := 1, small := true, zero := [.int .i64 0], kind := some .i64 }),
  (4, { ok := true, size := 1, small := true, zero := [.bool false], isBool := true }),
  (5, { ok := true, size := 1, small := true, zero := [.int .u8 0], kind := some .u8 }),
  (6, { ok := true, size := 1, small := true, zero := [.int .u8 0], kind := some .u8 }),
  (7, { ok := true, agg := true, size := 4, small := true, zero := [.int .i64 0, .int .i64 0, .bool false, .int .u8 0], offs := [(0, 1), (1, 1), (2, 1), (3, 1)], isStruct := true }),
  (8, { ok := true, agg := true, size := 4, small := true, zero := [.int .i64 0, .int .i64 0, .bool false, .int .u8 0], offs := [(0, 1), (1, 1), (2, 1), (3, 1)], isStruct := true }),
  (9, { ok := true, size := 1, small := true, zero := [.str ⟨#[]⟩], isStr := true }),
  (10, { ok := true, size := 1, small := true, zero := [.str ⟨#[]⟩], isStr := true }),
  (11, { ok := true, size := 1, small := true, zero := [.str ⟨#[]⟩], isStr := true }),
  (12, { ok := true, size := 1, small := true, zero := [.int .u64 0], kind := some .u64 }),
  (13, { ok := true, agg := true, size := 2, small := true, zero := [.str ⟨#[]⟩, .int .u64 0], offs := [(0, 1), (1, 1)], isStruct := true }),
  (14, { ok := true, agg := true, size := 2, small := true, zero := [.str ⟨#[]⟩, .int .u64 0], offs := [(0, 1), (1, 1)], isStruct := true }),
  (18, { ok := true, agg := true, size := 1, small := true, zero := [.undef], offs := [(0, 1)], isStruct := true }),
  (19, { ok := true, agg := true, size := 1, small := true, zero := [.undef], offs := [(0, 1)], isStruct := true }),
  (21, { ok := true, size := 1, small := true, zero := [.int .i32 0], kind := some .i32 }),
  (22, { ok := true, size := 1, small := true, elem := some 3, zero := [.nil] }),
  (25, { ok := true, size := 1, small := true, elem := some 32, zero := [.nil] }),
  (26, { ok := true, agg := true, size := 2, small := true, zero := [.nil, .nil], offs := [(0, 1), (1, 1)], isStruct := true }),
  (27, { ok := true, agg := true, size := 2, small := true, zero := [.nil, .nil], offs := [(0, 1), (1, 1)], isStruct := true }),
  (31, { ok := true, agg := true, size := 3, small := true, zero := [.nil, .int .i64 0, .int .i64 0], offs := [(0, 1), (1, 1), (2, 1)], isStruct := true }),
  (32, { ok := true, agg := true, size := 3, small := true, zero := [.nil, .int .i64 0, .int .i64 0], offs := [(0, 1), (1, 1), (2, 1)], isStruct := true }),
  (41, { ok := true, size := 1, small := true, zero := [.int .u64 0], kind := some .u64 }),
  (51, { ok := true, size := 1, small := true, elem := some 79, zero := [.nil] }),
  (52, { ok := true, size := 1, small := true, elem := some 82, zero := [.nil] }),
  (53, { ok := true, agg := true, size := 9, small := true, zero := [.int .i64 0, .int .i64 0, .int .i64 0, .int .i64 0, .nil, .nil, .nil, .nil, .int .i64 0], offs := [(0, 1), (1, 1), (2, 1), (3, 1), (4, 1), (5, 1), (6, 1), (7, 1), (8, 1)], isStruct := true }),
  (54, { ok := true, agg := true, size := 9, small := true, zero := [.int .i64 0, .int .i64 0, .int .i64 0, .int .i64 0, .nil, .nil, .nil, .nil, .int .i64 0], offs := [(0, 1), (1, 1), (2, 1), (3, 1), (4, 1), (5, 1), (6, 1), (7, 1), (8, 1)], isStruct := true }),
  (56, { ok := true, size := 1, small := true, zero := [.int .i64 0], kind := some .i64 }),
  (58, { ok := true, size := 1, small := true, elem := some 62, zero := [.nil] }),
  (60, { ok := true, size := 1, small := true, elem := some 68, zero := [.nil] }),
  (61, { ok := true, agg := true, size := 5, small := true, zero := [.int .i64 0, .int .i64 0, .str ⟨#[]⟩, .nil, .nil], offs := [(0, 1), (1, 1), (2, 1), (3, 1), (4, 1)], isStruct := true }),
  (62, { ok := true, agg := true, size := 5, small := true, zero := [.int .i64 0, .int .i64 0, .str ⟨#[]⟩, .nil, .nil], offs := [(0, 1), (1, 1), (2, 1), (3, 1), (4, 1)], isStruct := true }),
  (67, { ok := true, agg := true, size := 6, small := true, zero := [.int .i64 0, .int .i64 0, .int .i64 0, .int .i64 0, .int .i64 0, .int .i64 0], offs := [(0, 1), (1, 1), (2, 1), (3, 1), (4, 1), (5, 1)], isStruct := true }),
  (68, { ok := true, agg := true, size := 6, small := true, zero := [.int .i64 0, .int .i64 0, .int .i64 0, .int .i64 0, .int .i64 0, .int .i64 0], offs := [(0, 1), (1, 1), (2, 1), (3, 1), (4, 1), (5, 1)], isStruct := true }),
  (71, { ok := true, agg := true, size := 2, small := true, zero := [.nil, .int .i64 0], offs := [(0, 1), (1, 1)], isStruct := true }),
  (72, { ok := true, agg := true, size := 2, small := true, zero := [.nil, .int .i64 0], offs := [(0, 1), (1, 1)], isStruct := true }),
  (78, { ok := true, agg := true, size := 3, small := true, zero := [.int .i64 0, .int .i64 0, .int .i64 0], offs := [(0, 1), (1, 1), (2, 1)], isStruct := true }),
  (79, { ok := true, agg := true, size := 3, small := true, zero := [.int .i64 0, .int .i64 0, .int .i64 0], offs := [(0, 1), (1, 1), (2, 1)], isStruct := true }),
  (80, { ok := true, size := 1, small := true, elem := some 84, zero := [.nil] }),
  (81, { ok := true, agg := true, size := 2, small := true, zero := [.int .i64 0, .nil], offs := [(0, 1), (1, 1)], isStruct := true }),
  (82, { ok := true, agg := true, size := 2, small := true, zero := [.int .i64 0, .nil], offs := [(0, 1), (1, 1)], isStruct := true }),
  (83, { ok := true, agg := true, size := 2, small := true, zero := [.int .i64 0, .int .i64 0], offs := [(0, 1), (1, 1)], isStruct := true }),
  (84, { ok := true, agg := true, size := 2, small := true, zero := [.int .i64 0, .int .i64 0], offs := [(0, 1), (1, 1)], isStruct := true }),
  (88, { ok := true, size := 1, small := true, elem := some 9, zero := [.nil] }),
  (105, { ok := true, size := 1, small := true, elem := some 5, zero := [.nil] }),
  (113, { ok := true, agg := true, size := 4, small := true, zero := [.undef, .undef, .undef, .str ⟨#[]⟩], offs := [(0, 1), (1, 1), (2, 1), (3, 1)], isStruct := true }),
  (114, { ok := true, agg := true, size := 4, small := true, zero := [.undef, .undef, .undef, .str ⟨#[]⟩], offs := [(0, 1), (1, 1), (2, 1), (3, 1)], isStruct := true }),
  (115, { ok := true, agg := true, size := 0, small := true, zero := [] }),
  (116, { ok := true, agg := true, size := 0, small := true, zero := [], offs := [(0, 0)], isStruct := true }),
  (117, { ok := true, agg := true, size := 0, small := true, zero := [], offs := [(0, 0)], isStruct := true }),
  (118, { ok := true, size := 1, small := true, zero := [.int .u32 0], kind := some .u32 }),
  (119, { ok := true, size := 1, small := true, zero := [.int .u8 0], kind := some .u8 }),
  (120, { ok := true, size := 1, small := true, zero := [.int .u8 0], kind := some .u8 }),
  (123, { ok := true, size := 1, small := true, zero := [.int .i32 0], kind := some .i32 }),
  (124, { ok := true, size := 1, small := true, zero := [.int .i32 0], kind := some .i32 }),
  (125, { ok := true, agg := true, size := 11, small := true, zero := [.int .u64 0, .int .u64 0, .int .u32 0, .int .u8 0, .int .u8 0, .int .u8 0, .int .u8 0, .undef, .undef, .int .i32 0, .int .i32 0], offs := [(0, 1), (1, 1), (2, 1), (3, 1), (4, 1), (5, 1), (6, 1), (7, 1), (8, 1), (9, 1), (10, 1)], isStruct := true }),
  (126, { ok := true, agg := true, size := 11, small := true, zero := [.int .u64 0, .int .u64 0, .int .u32 0, .int .u8 0, .int .u8 0, .int .u8 0, .int .u8 0, .undef, .undef, .int .i32 0, .int .i32 0], offs := [(0, 1), (1, 1), (2, 1), (3, 1), (4, 1), (5, 1), (6, 1), (7, 1), (8, 1), (9, 1), (10, 1)], isStruct := true })]
def lkT : List (Nat × Ty) → Nat → Ty
  | [], _ => {}
  | (j, v) :: l, i => bif Nat.beq i j then v else lkT l i
def tab (t : Nat) : Ty := lkT tabL t
set_option maxRecDepth 100000 in
theorem tabL_eq : tabL = [2, 3, 4, 5, 6, 7, 8, 9, 10, 11, 12, 13, 14, 18, 19, 21, 22, 25, 26, 27, 31, 32, 41, 51, 52, 53, 54, 56, 58, 60, 61, 62, 67, 68, 71, 72, 78, 79, 80, 81, 82, 83, 84, 88, 105, 113, 114, 115, 116, 117, 118, 119, 120, 123, 124, 125, 126].map (fun t => (t, tyOf Try.prog t)) := by kernel_rfl
theorem lkT_ok {P : Program} : ∀ {ks : List Nat} {t : Nat}, (lkT (ks.map fun t => (t, tyOf P t)) t).ok = true → lkT (ks.map fun t => (t, tyOf P t)) t = tyOf P t
  | [], t, h => by simp [lkT] at h
  | k :: ks, t, h => by
    simp only [List.map_cons, lkT] at h ⊢
    by_cases e : t = k
    · subst e; simp
    · rw [beq_ne e] at h ⊢; exact lkT_ok h
theorem tabOk : TabOk Try.prog tab := fun t h => by
  unfold tab at h ⊢
  rw [tabL_eq] at h ⊢
  exact lkT_ok h
theorem mixed : Try.prog.follows .mixedOrders = true := by kernel_rfl
end Go.Proofs.Ytipelkbdonfkoaa
