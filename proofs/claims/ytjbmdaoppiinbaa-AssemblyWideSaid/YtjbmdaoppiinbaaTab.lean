/- The table of the program's types, as the interpreter reads them. (Printed by wip/mktab.py.) -/
import Derived.Test.YtjbmdaoppiinbaaMC
import Derived.Test.YtjbmdaoppiinbaaProg
import Derived.KernelRfl
namespace Go.Proofs.Ytjbmdaoppiinbaa
set_option linter.unusedVariables false
def tabL : List (Nat × Ty) := [
  (1, { ok := true, size := 1, small := true, word := true, zero := [.undef] }),
  (2, { ok := true, size := 1, small := true, word := true, zero := [.int .i64 0], kind := some .i64 }),
  (3, { ok := true, size := 1, small := true, word := true, zero := [.int .i64 0], kind := some .i64 }),
  (4, { ok := true, size := 1, small := true, word := true, zero := [.bool false], isBool := true }),
  (5, { ok := true, size := 1, small := true, word := true, zero := [.int .u8 0], kind := some .u8 }),
  (6, { ok := true, size := 1, small := true, word := true, zero := [.int .u8 0], kind := some .u8 }),
  (7, { ok := true, agg := true, size := 4, small := true, zero := [.int .i64 0, .int .i64 0, .bool false, .int .u8 0], offs := [(0, 1), (1, 1), (2, 1), (3, 1)], isStruct := true }),
  (8, { ok := true, agg := true, size := 4, small := true, zero := [.int .i64 0, .int .i64 0, .bool false, .int .u8 0], offs := [(0, 1), (1, 1), (2, 1), (3, 1)], isStruct := true }),
  (9, { ok := true, size := 1, small := true, zero := [.str ⟨#[]⟩], isStr := true }),
  (10, { ok := true, size := 1, small := true, zero := [.str ⟨#[]⟩], isStr := true }),
  (11, { ok := true, size := 1, small := true, zero := [.str ⟨#[]⟩], isStr := true }),
  (12, { ok := true, size := 1, small := true, word := true, zero := [.int .u64 0], kind := some .u64 }),
  (13, { ok := true, agg := true, size := 2, small := true, zero := [.str ⟨#[]⟩, .int .u64 0], offs := [(0, 1), (1, 1)], isStruct := true }),
  (14, { ok := true, agg := true, size := 2, small := true, zero := [.str ⟨#[]⟩, .int .u64 0], offs := [(0, 1), (1, 1)], isStruct := true }),
  (15, { ok := true, size := 1, small := true, word := true, zero := [.nilp], isPtr := true }),
  (16, { ok := true, size := 1, small := true, word := true, zero := [.nilp], isPtr := true }),
  (17, { ok := true, size := 1, small := true, word := true, zero := [.nilp], isPtr := true }),
  (18, { ok := true, agg := true, size := 1, small := true, word := true, zero := [.nilp], offs := [(0, 1)], isStruct := true }),
  (19, { ok := true, agg := true, size := 1, small := true, word := true, zero := [.nilp], offs := [(0, 1)], isStruct := true }),
  (21, { ok := true, size := 1, small := true, word := true, zero := [.int .i32 0], kind := some .i32 }),
  (22, { ok := true, agg := true, size := 12, small := true, zero := [.int .u8 0, .int .u8 0, .int .u8 0, .int .u8 0, .int .u8 0, .int .u8 0, .int .u8 0, .int .u8 0, .int .u8 0, .int .u8 0, .int .u8 0, .int .u8 0], arr := some (5, 12) }),
  (23, { ok := true, size := 1, small := true, elem := some 3, zero := [.nil] }),
  (24, { ok := true, size := 1, small := true, elem := some 28, zero := [.nil] }),
  (25, { ok := true, agg := true, size := 2, small := true, zero := [.nil, .nil], offs := [(0, 1), (1, 1)], isStruct := true }),
  (26, { ok := true, agg := true, size := 2, small := true, zero := [.nil, .nil], offs := [(0, 1), (1, 1)], isStruct := true }),
  (27, { ok := true, agg := true, size := 3, small := true, zero := [.nil, .int .i64 0, .int .i64 0], offs := [(0, 1), (1, 1), (2, 1)], isStruct := true }),
  (28, { ok := true, agg := true, size := 3, small := true, zero := [.nil, .int .i64 0, .int .i64 0], offs := [(0, 1), (1, 1), (2, 1)], isStruct := true }),
  (29, { ok := true, size := 1, small := true, elem := some 57, zero := [.nil] }),
  (30, { ok := true, agg := true, size := 4, small := true, zero := [.bool false, .nil, .int .i64 0, .nil], offs := [(0, 1), (1, 1), (2, 1), (3, 1)], isStruct := true }),
  (31, { ok := true, agg := true, size := 4, small := true, zero := [.bool false, .nil, .int .i64 0, .nil], offs := [(0, 1), (1, 1), (2, 1), (3, 1)], isStruct := true }),
  (32, { ok := true, size := 1, small := true, word := true, zero := [.int .i64 0], kind := some .i64 }),
  (34, { ok := true, size := 1, small := true, word := true, zero := [.undef] }),
  (35, { ok := true, agg := true, size := 12, small := true, zero := [.bool false, .bool false, .bool false, .bool false, .bool false, .bool false, .bool false, .bool false, .bool false, .bool false, .bool false, .bool false], arr := some (4, 12) }),
  (36, { ok := true, size := 1, small := true, word := true, zero := [.undef] }),
  (37, { ok := true, size := 1, small := true, word := true, zero := [.undef] }),
  (38, { ok := true, size := 1, small := true, word := true, zero := [.undef] }),
  (39, { ok := true, size := 1, small := true, word := true, zero := [.undef] }),
  (40, { ok := true, size := 1, small := true, word := true, zero := [.undef] }),
  (41, { ok := true, size := 1, small := true, word := true, zero := [.undef] }),
  (42, { ok := true, size := 1, small := true, word := true, zero := [.undef] }),
  (43, { ok := true, size := 1, small := true, word := true, zero := [.undef] }),
  (45, { ok := true, size := 1, small := true, word := true, zero := [.undef] }),
  (46, { ok := true, size := 1, small := true, word := true, zero := [.undef] }),
  (48, { ok := true, size := 1, small := true, word := true, zero := [.undef] }),
  (50, { ok := true, size := 1, small := true, word := true, zero := [.undef] }),
  (51, { ok := true, size := 1, small := true, word := true, zero := [.undef] }),
  (52, { ok := true, size := 1, small := true, word := true, zero := [.undef] }),
  (53, { ok := true, size := 1, small := true, word := true, zero := [.undef] }),
  (54, { ok := true, size := 1, small := true, word := true, zero := [.undef] }),
  (55, { ok := true, size := 1, small := true, word := true, zero := [.undef] }),
  (56, { ok := true, agg := true, size := 7, small := true, zero := [.int .i64 0, .int .i64 0, .int .i64 0, .int .i64 0, .int .i64 0, .int .i64 0, .int .i64 0], offs := [(0, 1), (1, 1), (2, 1), (3, 1), (4, 1), (5, 1), (6, 1)], isStruct := true }),
  (57, { ok := true, agg := true, size := 7, small := true, zero := [.int .i64 0, .int .i64 0, .int .i64 0, .int .i64 0, .int .i64 0, .int .i64 0, .int .i64 0], offs := [(0, 1), (1, 1), (2, 1), (3, 1), (4, 1), (5, 1), (6, 1)], isStruct := true }),
  (58, { ok := true, size := 1, small := true, word := true, zero := [.undef] }),
  (59, { ok := true, size := 1, small := true, word := true, zero := [.undef] }),
  (60, { ok := true, size := 1, small := true, word := true, zero := [.undef] }),
  (61, { ok := true, size := 1, small := true, word := true, zero := [.undef] }),
  (62, { ok := true, size := 1, small := true, word := true, zero := [.undef] }),
  (63, { ok := true, size := 1, small := true, elem := some 23, zero := [.nil] }),
  (65, { ok := true, size := 1, small := true, word := true, zero := [.undef] }),
  (67, { ok := true, size := 1, small := true, word := true, zero := [.undef] }),
  (68, { ok := true, size := 1, small := true, word := true, zero := [.undef] }),
  (69, { ok := true, size := 1, small := true, word := true, zero := [.int .u64 0], kind := some .u64 }),
  (71, { ok := true, size := 1, small := true, word := true, zero := [.undef] }),
  (72, { ok := true, size := 1, small := true, word := true, zero := [.undef] }),
  (73, { ok := true, size := 1, small := true, elem := some 4, zero := [.nil] }),
  (74, { ok := true, size := 1, small := true, word := true, zero := [.undef] }),
  (75, { ok := true, size := 1, small := true, word := true, zero := [.undef] }),
  (76, { ok := true, size := 1, small := true, word := true, zero := [.undef] }),
  (77, { ok := true, size := 1, small := true, word := true, zero := [.int .u32 0], kind := some .u32 }),
  (79, { ok := true, size := 1, small := true, word := true, zero := [.undef] }),
  (80, { ok := true, size := 1, small := true, word := true, zero := [.int .u64 0], kind := some .u64 }),
  (82, { ok := true, size := 1, small := true, word := true, zero := [.undef] }),
  (83, { ok := true, size := 1, small := true, word := true, zero := [.undef] }),
  (84, { ok := true, agg := true, size := 4, small := true, zero := [.nilp, .nilp, .nilp, .str ⟨#[]⟩], offs := [(0, 1), (1, 1), (2, 1), (3, 1)], isStruct := true }),
  (85, { ok := true, agg := true, size := 4, small := true, zero := [.nilp, .nilp, .nilp, .str ⟨#[]⟩], offs := [(0, 1), (1, 1), (2, 1), (3, 1)], isStruct := true }),
  (86, { ok := true, agg := true, size := 0, small := true, word := true, zero := [], arr := some (16, 0) }),
  (87, { ok := true, agg := true, size := 0, small := true, word := true, zero := [], offs := [(0, 0)], isStruct := true }),
  (88, { ok := true, agg := true, size := 0, small := true, word := true, zero := [], offs := [(0, 0)], isStruct := true }),
  (89, { ok := true, size := 1, small := true, word := true, zero := [.undef] }),
  (90, { ok := true, size := 1, small := true, word := true, zero := [.int .u8 0], kind := some .u8 }),
  (91, { ok := true, size := 1, small := true, word := true, zero := [.int .u8 0], kind := some .u8 }),
  (92, { ok := true, size := 1, small := true, word := true, zero := [.undef] }),
  (93, { ok := true, size := 1, small := true, word := true, zero := [.nilp], isPtr := true }),
  (94, { ok := true, size := 1, small := true, word := true, zero := [.int .i32 0], kind := some .i32 }),
  (95, { ok := true, size := 1, small := true, word := true, zero := [.int .i32 0], kind := some .i32 }),
  (96, { ok := true, agg := true, size := 11, small := true, zero := [.int .u64 0, .int .u64 0, .int .u32 0, .int .u8 0, .int .u8 0, .int .u8 0, .int .u8 0, .undef, .nilp, .int .i32 0, .int .i32 0], offs := [(0, 1), (1, 1), (2, 1), (3, 1), (4, 1), (5, 1), (6, 1), (7, 1), (8, 1), (9, 1), (10, 1)], isStruct := true }),
  (97, { ok := true, agg := true, size := 11, small := true, zero := [.int .u64 0, .int .u64 0, .int .u32 0, .int .u8 0, .int .u8 0, .int .u8 0, .int .u8 0, .undef, .nilp, .int .i32 0, .int .i32 0], offs := [(0, 1), (1, 1), (2, 1), (3, 1), (4, 1), (5, 1), (6, 1), (7, 1), (8, 1), (9, 1), (10, 1)], isStruct := true })]
def lkT : List (Nat × Ty) → Nat → Ty
  | [], _ => {}
  | (j, v) :: l, i => bif Nat.beq i j then v else lkT l i
def tab (t : Nat) : Ty := lkT tabL t
set_option maxRecDepth 100000 in
theorem tabL_eq : tabL = [1, 2, 3, 4, 5, 6, 7, 8, 9, 10, 11, 12, 13, 14, 15, 16, 17, 18, 19, 21, 22, 23, 24, 25, 26, 27, 28, 29, 30, 31, 32, 34, 35, 36, 37, 38, 39, 40, 41, 42, 43, 45, 46, 48, 50, 51, 52, 53, 54, 55, 56, 57, 58, 59, 60, 61, 62, 63, 65, 67, 68, 69, 71, 72, 73, 74, 75, 76, 77, 79, 80, 82, 83, 84, 85, 86, 87, 88, 89, 90, 91, 92, 93, 94, 95, 96, 97].map (fun t => (t, tyOf Try.prog t)) := by kernel_rfl
theorem lkT_ok {P : Program} : ∀ {ks : List Nat} {t : Nat}, (lkT (ks.map fun t => (t, tyOf P t)) t).ok = true → lkT (ks.map fun t => (t, tyOf P t)) t = tyOf P t
  | [], t, h => by simp [lkT] at h
  | k :: ks, t, h => by
    simp only [List.map_cons, lkT] at h ⊢
    by_cases e : t = k
    · subst e; simp
    · rw [beq_ne e] at h ⊢; exact lkT_ok h
theorem tabOk : TabOk Try.prog tab := fun t h => by
  unfold tab at h ⊢
  rw [tabL_eq] at h ⊢
  exact lkT_ok h
theorem mixed : Try.prog.follows .mixedOrders = true := by kernel_rfl
end Go.Proofs.Ytjbmdaoppiinbaa
