/- Layer 8: the sanity check 'awake' is true. -/
import Derived.Test.YtipelkbdonfkoaaDead08
namespace Go.Proofs.Ytipelkbdonfkoaa
set_option linter.unusedVariables false
open Go.RowKit

def awakeP : Prog := ⟨[1, 1, 1], [⟨[1, 1, 1], 1, 2⟩, ⟨[4, 5, 6], 9, 10⟩, ⟨[0, 1, 1], 0, 1⟩]⟩
def i64s (l : List Int) : Array Value := (l.map (Value.int .i64)).toArray
/-- The cells of the three rows, whose coefficients lie in the blocks g + 1, g + 2, g + 3. -/
def awakeRows (g : Nat) : Array Value := #[.slice (some ⟨g + 1, 0, none⟩) 3 3, .int .i64 1, .int .i64 2, .slice (some ⟨g + 2, 0, none⟩) 3 3, .int .i64 9, .int .i64 10, .slice (some ⟨g + 3, 0, none⟩) 3 3, .int .i64 0, .int .i64 1]
def awakeW (w : World) : World := (((((w.alloc (.cells (i64s [1, 1, 1]) 3)).alloc (.cells (i64s [1, 1, 1]) 3)).alloc (.cells (i64s [4, 5, 6]) 3)).alloc (.cells (i64s [0, 1, 1]) 3)).alloc (.cells (awakeRows w.heap.size) 32)).alloc
  (.cells #[.slice (some ⟨w.heap.size, 0, none⟩) 3 3, .slice (some ⟨w.heap.size + 4, 0, none⟩) 3 3] 27)
theorem blk_at {t : TypeId} {cs : Array Value} (w : World) (k : Nat) (hk : k = w.heap.size) : Blk (w.alloc (.cells cs t)) k t cs := by subst hk; exact Blk.made w t cs
theorem awake_blk (w : World) : Blk (awakeW w) w.heap.size 3 (i64s [1, 1, 1]) ∧ Blk (awakeW w) (w.heap.size + 1) 3 (i64s [1, 1, 1]) ∧ Blk (awakeW w) (w.heap.size + 2) 3 (i64s [4, 5, 6]) ∧ Blk (awakeW w) (w.heap.size + 3) 3 (i64s [0, 1, 1]) ∧
    Blk (awakeW w) (w.heap.size + 4) 32 (awakeRows w.heap.size) ∧ Blk (awakeW w) (w.heap.size + 5) 27 #[.slice (some ⟨w.heap.size, 0, none⟩) 3 3, .slice (some ⟨w.heap.size + 4, 0, none⟩) 3 3] := by
  exact ⟨((((((blk_at _ _ (by simp)).chg ((Chg.refl No _).alloc _) no_).chg ((Chg.refl No _).alloc _) no_).chg ((Chg.refl No _).alloc _) no_).chg ((Chg.refl No _).alloc _) no_).chg ((Chg.refl No _).alloc _) no_), (((((blk_at _ _ (by simp)).chg ((Chg.refl No _).alloc _) no_).chg ((Chg.refl No _).alloc _) no_).chg ((Chg.refl No _).alloc _) no_).chg ((Chg.refl No _).alloc _) no_), ((((blk_at _ _ (by simp)).chg ((Chg.refl No _).alloc _) no_).chg ((Chg.refl No _).alloc _) no_).chg ((Chg.refl No _).alloc _) no_), (((blk_at _ _ (by simp)).chg ((Chg.refl No _).alloc _) no_).chg ((Chg.refl No _).alloc _) no_), ((blk_at _ _ (by simp)).chg ((Chg.refl No _).alloc _) no_), (blk_at _ _ (by simp))⟩
theorem awake_chg (w : World) : Chg No w (awakeW w) := ((((((Chg.refl No w).alloc _).alloc _).alloc _).alloc _).alloc _).alloc _
theorem awake_at (w : World) : ProgAt (awakeW w) No (some ⟨w.heap.size, 0, none⟩) 3 3 (some ⟨w.heap.size + 4, 0, none⟩) 3 3 awakeP := by
  obtain ⟨b0, b1, b2, b3, b4, -⟩ := awake_blk w
  refine ⟨ints_blk b0 _ rfl no_ rfl rfl rfl, rfl, Nat.le_refl _, fun _ => ⟨_, 0, rfl, b4.lt, no_, fun i x hx => ?_⟩⟩
  match i, hx with
  | 0, hx =>
    obtain rfl : (⟨[1, 1, 1], 1, 2⟩ : Row) = x := by simpa [awakeP] using hx
    exact ⟨_, fun j u hu => by
      match j, hu with
      | 0, hu => rw [b4.cell]; exact hu
      | 1, hu => rw [b4.cell]; exact hu
      | 2, hu => rw [b4.cell]; exact hu, row_rep (r := ⟨[1, 1, 1], 1, 2⟩) (ints_blk b1 _ rfl no_ rfl rfl rfl)⟩
  | 1, hx =>
    obtain rfl : (⟨[4, 5, 6], 9, 10⟩ : Row) = x := by simpa [awakeP] using hx
    exact ⟨_, fun j u hu => by
      match j, hu with
      | 0, hu => rw [b4.cell]; exact hu
      | 1, hu => rw [b4.cell]; exact hu
      | 2, hu => rw [b4.cell]; exact hu, row_rep (r := ⟨[4, 5, 6], 9, 10⟩) (ints_blk b2 _ rfl no_ rfl rfl rfl)⟩
  | 2, hx =>
    obtain rfl : (⟨[0, 1, 1], 0, 1⟩ : Row) = x := by simpa [awakeP] using hx
    exact ⟨_, fun j u hu => by
      match j, hu with
      | 0, hu => rw [b4.cell]; exact hu
      | 1, hu => rw [b4.cell]; exact hu
      | 2, hu => rw [b4.cell]; exact hu, row_rep (r := ⟨[0, 1, 1], 0, 1⟩) (ints_blk b3 _ rfl no_ rfl rfl rfl)⟩

set_option maxHeartbeats 2000000 in
theorem awake_any (w : World) : Calls Try.prog 18 #[] w (BoolPost true w) := by
  have HC := Lib.hid (awake_chg w)
  have HP := Lib.hid (awake_at w)
  have HB := Lib.hid (awake_blk w)
  go_enter Try.func18, Try.ntmps18
  go_wp2_with fail
  show Calls _ _ #[.agg #[.slice (some ⟨w.heap.size + 2, 0, none⟩) 3 3, .int .i64 9, .int .i64 10], .slice (some ⟨w.heap.size + 6, 0, none⟩) 3 3] ((awakeW w).alloc (.cells (i64s [0, -1, -1]) 3)) _
  refine (span_any _ _ 3 3 3 3 9 10 [4, 5, 6] [0, -1, -1] _ (ints_blk (X := No) (HB.out.2.2.1.chg ((Chg.refl No _).alloc _) no_) _ rfl no_ rfl rfl rfl) (ints_blk (X := No) (blk_at (awakeW w) _ (by simp [awakeW])) _ rfl no_ rfl rfl rfl) (by omega) (by omega)).mono ?_
  rintro e w1 ⟨rfl, hc1⟩
  have hw1 : Chg No (awakeW w) w1 := ((Chg.refl No _).alloc _).trans hc1
  have b1 := HB.out.2.2.2.2.2.chg hw1 no_
  have k0 : w1.cell? ⟨w.heap.size + 5, 0, none⟩ = some (.slice (some ⟨w.heap.size, 0, none⟩) 3 3) := by rw [b1.cell]; rfl
  have k1 : w1.cell? ⟨w.heap.size + 5, 1, none⟩ = some (.slice (some ⟨w.heap.size + 4, 0, none⟩) 3 3) := by rw [b1.cell]; rfl
  have e1 : (spanF [4, 5, 6] [0, -1, -1]).1 = 0 := by decide
  have e2 : (spanF [4, 5, 6] [0, -1, -1]).2 = 11 := by decide
  have e3 : spanB [4, 5, 6] [0, -1, -1] = true := by decide
  rw [e1, e2, e3]
  clear e1 e2 e3
  have HW1 := Lib.hid hw1; clear hw1 hc1
  have HB1 := Lib.hid b1; clear b1
  go_wp2_with fail
  refine (meets_any _ _ _ 3 3 3 3 2 2 awakeP [0, 1] _ (HP.out.keep (HW1.out.alloc _)) (ints_blk (X := No) (Blk.made w1 _ _) _ rfl no_ rfl rfl rfl) (by omega) (by omega) (by omega)).mono ?_
  rintro e w2 ⟨rfl, hc2⟩
  have e1 : meetsB awakeP [0, 1] = true := by decide
  rw [e1]
  clear e1
  have hw2 : Chg No (awakeW w) w2 := (HW1.out.alloc _).trans hc2
  have b2 := HB.out.2.2.2.2.2.chg hw2 no_
  have k0 : w2.cell? ⟨w.heap.size + 5, 0, none⟩ = some (.slice (some ⟨w.heap.size, 0, none⟩) 3 3) := by rw [b2.cell]; rfl
  have k1 : w2.cell? ⟨w.heap.size + 5, 1, none⟩ = some (.slice (some ⟨w.heap.size + 4, 0, none⟩) 3 3) := by rw [b2.cell]; rfl
  have HW2 := Lib.hid hw2; clear hw2 hc2 b2
  go_wp2_with fail
  refine (meets_any _ _ _ 3 3 3 3 2 2 awakeP [1, 2] _ (HP.out.keep (HW2.out.alloc _)) (ints_blk (X := No) (Blk.made w2 _ _) _ rfl no_ rfl rfl rfl) (by omega) (by omega) (by omega)).mono ?_
  rintro e w3 ⟨rfl, hc3⟩
  have e1 : meetsB awakeP [1, 2] = false := by decide
  rw [e1]
  clear e1
  have hw3 : Chg No (awakeW w) w3 := (HW2.out.alloc _).trans hc3
  have b3 := HB.out.2.2.2.2.2.chg hw3 no_
  have k0 : w3.cell? ⟨w.heap.size + 5, 0, none⟩ = some (.slice (some ⟨w.heap.size, 0, none⟩) 3 3) := by rw [b3.cell]; rfl
  have k1 : w3.cell? ⟨w.heap.size + 5, 1, none⟩ = some (.slice (some ⟨w.heap.size + 4, 0, none⟩) 3 3) := by rw [b3.cell]; rfl
  have HW3 := Lib.hid hw3; clear hw3 hc3 b3
  go_wp2_with fail
  refine (dead_any _ _ _ 3 3 3 3 3 3 awakeP [0, -1, -1] _ (HP.out.keep (HW3.out.alloc _)) (ints_blk (X := No) (Blk.made w3 _ _) _ rfl no_ rfl rfl rfl) (by omega) (by omega) (by omega)).mono ?_
  rintro e w4 ⟨rfl, hc4⟩
  have e1 : deadF awakeP [0, -1, -1] = -1 := by decide
  rw [e1]
  clear e1
  have HW4 := Lib.hid ((HW3.out.alloc _).trans hc4); clear hc4
  go_wp2_with fail
  go_ret
  exact ⟨rfl, HC.out.trans HW4.out⟩
end Go.Proofs.Ytipelkbdonfkoaa
