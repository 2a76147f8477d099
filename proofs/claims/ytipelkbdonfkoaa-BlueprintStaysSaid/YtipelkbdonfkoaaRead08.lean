/- Layer 8: contracts of the functions that only read. (The repeated parts are printed by wip/mk08.py.) -/
import Derived.Test.YtipelkbdonfkoaaSpec08
namespace Go.Proofs.Ytipelkbdonfkoaa
set_option linter.unusedVariables false
open Go.RowKit

set_option maxHeartbeats 400000 in
theorem validCoefs_any {X : Nat → Prop} (A : Option Addr) (n c : Nat) (xs : List Int) (w : World) (h : Ints w X A n c xs) (hm : n ≤ 1000000) :
    Calls Try.prog 47 #[.slice A n c] w fun e w' => e = .returned (.bool (validCoefsB xs)) ∧ w = w' := by
  have hl := h.len
  have hat := h.int_at
  have HL := Lib.hid hl; clear hl
  have HA := Lib.hid hat; clear hat h
  go_enter Try.func47, Try.ntmps47
  go_wp2_with fail
  go_loop [7] (fun i => ∃ k : Nat, k ≤ n ∧ i = .int .i64 k ∧ AllTo coefB xs k) (fun i => n - (intOf i).toNat)
  case atStart => exact ⟨0, Nat.zero_le _, rfl, AllTo.zero⟩
  case round =>
    obtain ⟨k, hk, rfl, hall⟩ := hrel
    have HALL := Lib.hid hall; clear hall
    by_cases hlt : k < n
    · obtain ⟨b, off, rfl, -, -, hc⟩ := HA.out (by omega)
      have hck := hc k hlt
      clear hc
      by_cases h1 : nth xs k < -10000
      · have HF : Hid (xs.all coefB = false) := all_fail (k := k) (by rw [HL.out]; exact hlt) (by simp [coefB]; omega)
        go_wp2_with fail
        go_ret
        exact ⟨by simp [validCoefsB, HF.out], rfl⟩
      · by_cases h2 : 10000 < nth xs k
        · have HF : Hid (xs.all coefB = false) := all_fail (k := k) (by rw [HL.out]; exact hlt) (by simp [coefB]; omega)
          go_wp2_with fail
          go_ret
          exact ⟨by simp [validCoefsB, HF.out], rfl⟩
        · have HT : Hid (AllTo coefB xs (k + 1)) := HALL.out.step (by rw [coefB_iff]; omega)
          go_wp2_with fail
          go_round
          case rel => exact ⟨k + 1, by omega, by go_num, HT.out⟩
          case measure => simp [intOf]; omega
    · have HF : Hid (xs.all coefB = true) := HALL.out.full (by rw [HL.out]; omega)
      go_wp2_with fail
      go_ret
      exact ⟨by simp [validCoefsB, HF.out], rfl⟩

theorem isState_len {xs : List Int} {n m : Nat} (hl : xs.length = n) (h : n ≠ m) : isStateB xs m = false := by simp [isStateB, hl, h]
theorem isState_big {xs : List Int} {m : Nat} (h : 12 < m) : isStateB xs m = false := by
  have : ¬ m ≤ 12 := by omega
  simp [isStateB, this]
set_option maxHeartbeats 400000 in
theorem isState_early {X : Nat → Prop} (A : Option Addr) (n c m : Nat) (xs : List Int) (w : World) (h : Ints w X A n c xs) (hm : n ≤ 1000000) (hm' : m ≤ 1000000) (hne : n ≠ m ∨ 12 < m) :
    Calls Try.prog 46 #[.slice A n c, .int .i64 m] w fun e w' => e = .returned (.bool (isStateB xs m)) ∧ w = w' := by
  have HF : Hid (isStateB xs m = false) := hne.elim (isState_len h.len) isState_big
  by_cases hnm : n = m
  · have h12 : 12 < m := hne.resolve_left fun h => h hnm
    have hb : ((n : Int) != (m : Int)) = false := by simp [hnm]
    clear h hne hnm
    go_enter Try.func46, Try.ntmps46
    go_wp2_with fail
    go_ret
    exact ⟨by rw [HF.out]; rfl, rfl⟩
  · have hb : ((n : Int) != (m : Int)) = true := by simp; omega
    clear h hne hnm
    go_enter Try.func46, Try.ntmps46
    go_wp2_with fail
    go_ret
    exact ⟨by rw [HF.out]; rfl, rfl⟩

set_option maxHeartbeats 400000 in
theorem isState_late {X : Nat → Prop} (A : Option Addr) (n c : Nat) (xs : List Int) (w : World) (h : Ints w X A n c xs) (hm : n ≤ 1000000) (h12 : n ≤ 12) :
    Calls Try.prog 46 #[.slice A n c, .int .i64 n] w fun e w' => e = .returned (.bool (isStateB xs n)) ∧ w = w' := by
  have hl := h.len
  have hat := h.int_at
  have HL := Lib.hid hl; clear hl
  have HA := Lib.hid hat; clear hat h
  have hb : ((n : Int) != (n : Int)) = false := by simp
  go_enter Try.func46, Try.ntmps46
  go_wp2_with fail
  go_loop [17] (fun i => ∃ k : Nat, k ≤ n ∧ i = .int .i64 k ∧ AllTo triB xs k) (fun i => n - (intOf i).toNat)
  case atStart => exact ⟨0, Nat.zero_le _, rfl, AllTo.zero⟩
  case round =>
    obtain ⟨k, hk, rfl, hall⟩ := hrel
    have HALL := Lib.hid hall; clear hall
    by_cases hlt : k < n
    · obtain ⟨b, off, rfl, -, -, hc⟩ := HA.out (by omega)
      have hck := hc k hlt
      clear hc
      by_cases h1 : nth xs k < -1
      · have HF : Hid (xs.all triB = false) := all_fail (k := k) (by rw [HL.out]; exact hlt) (by simp [triB]; omega)
        go_wp2_with fail
        go_ret
        exact ⟨by simp [isStateB, HL.out, h12, HF.out], rfl⟩
      · by_cases h2 : 1 < nth xs k
        · have HF : Hid (xs.all triB = false) := all_fail (k := k) (by rw [HL.out]; exact hlt) (by simp [triB]; omega)
          go_wp2_with fail
          go_ret
          exact ⟨by simp [isStateB, HL.out, h12, HF.out], rfl⟩
        · have HT : Hid (AllTo triB xs (k + 1)) := HALL.out.step (by rw [triB_iff]; omega)
          go_wp2_with fail
          go_round
          case rel => exact ⟨k + 1, by omega, by go_num, HT.out⟩
          case measure => simp [intOf]; omega
    · have HF : Hid (xs.all triB = true) := HALL.out.full (by rw [HL.out]; omega)
      go_wp2_with fail
      go_ret
      exact ⟨by simp [isStateB, HL.out, h12, HF.out], rfl⟩

theorem isState_any {X : Nat → Prop} (A : Option Addr) (n c m : Nat) (xs : List Int) (w : World) (h : Ints w X A n c xs) (hm : n ≤ 1000000) (hm' : m ≤ 1000000) :
    Calls Try.prog 46 #[.slice A n c, .int .i64 m] w fun e w' => e = .returned (.bool (isStateB xs m)) ∧ w = w' := by
  by_cases hne : n ≠ m ∨ 12 < m
  · exact isState_early A n c m xs w h hm hm' hne
  · obtain rfl : n = m := by omega
    exact isState_late A n c xs w h hm (by omega)

set_option maxHeartbeats 400000 in
theorem coef_any (x : Int) (w : World) : Calls Try.prog 49 #[.int .i64 x] w fun e w' => e = .returned (.bool (coefB x)) ∧ w = w' := by
  unfold coefB
  by_cases h1 : -10000 ≤ x
  · go_enter Try.func49, Try.ntmps49
    go_wp2_with fail
    go_ret
    exact ⟨by simp [h1], rfl⟩
  · have h1' : decide (-10000 ≤ x) = false := by simpa using h1
    go_enter Try.func49, Try.ntmps49
    go_wp2_with fail
    go_ret
    exact ⟨by simp, rfl⟩

set_option maxHeartbeats 400000 in
theorem limit_any (x : Int) (w : World) : Calls Try.prog 57 #[.int .i64 x] w fun e w' => e = .returned (.bool (boundB x)) ∧ w = w' := by
  unfold boundB
  by_cases h1 : -1000000 ≤ x
  · go_enter Try.func57, Try.ntmps57
    go_wp2_with fail
    go_ret
    exact ⟨by simp [h1], rfl⟩
  · have h1' : decide (-1000000 ≤ x) = false := by simpa using h1
    go_enter Try.func57, Try.ntmps57
    go_wp2_with fail
    go_ret
    exact ⟨by simp, rfl⟩

set_option maxHeartbeats 400000 in
theorem isBound_any (x : Int) (w : World) : Calls Try.prog 55 #[.int .i64 x] w fun e w' => e = .returned (.bool (boundB x)) ∧ w = w' := by
  unfold boundB
  by_cases h1 : -1000000 ≤ x
  · go_enter Try.func55, Try.ntmps55
    go_wp2_with fail
    go_ret
    exact ⟨by simp [h1], rfl⟩
  · have h1' : decide (-1000000 ≤ x) = false := by simpa using h1
    go_enter Try.func55, Try.ntmps55
    go_wp2_with fail
    go_ret
    exact ⟨by simp, rfl⟩

def insideB (x m : Int) : Bool := decide (0 ≤ x) && decide (x ≤ m)
set_option maxHeartbeats 400000 in
theorem inside_any (x m : Int) (w : World) : Calls Try.prog 56 #[.int .i64 x, .int .i64 m] w fun e w' => e = .returned (.bool (insideB x m)) ∧ w = w' := by
  unfold insideB
  by_cases h1 : 0 ≤ x
  · go_enter Try.func56, Try.ntmps56
    go_wp2_with fail
    go_ret
    exact ⟨by simp [h1], rfl⟩
  · have h1' : decide (0 ≤ x) = false := by simpa using h1
    go_enter Try.func56, Try.ntmps56
    go_wp2_with fail
    go_ret
    exact ⟨by simp, rfl⟩

/-- The reference's State: no bound on the length. -/
def stateB (st : List Int) (n : Nat) : Bool := decide (st.length = n) && st.all triB
set_option maxHeartbeats 400000 in
theorem state_early {X : Nat → Prop} (A : Option Addr) (n c m : Nat) (xs : List Int) (w : World) (h : Ints w X A n c xs) (hm : n ≤ 1000000) (hm' : m ≤ 1000000) (hne : n ≠ m) :
    Calls Try.prog 48 #[.int .i64 m, .slice A n c] w fun e w' => e = .returned (.bool (stateB xs m)) ∧ w = w' := by
  have HF : Hid (stateB xs m = false) := by
    show stateB xs m = false
    simp [stateB, h.len, hne]
  have hb : ((n : Int) != (m : Int)) = true := by simp; omega
  clear h hne
  go_enter Try.func48, Try.ntmps48
  go_wp2_with fail
  go_ret
  exact ⟨by rw [HF.out]; rfl, rfl⟩

set_option maxHeartbeats 400000 in
theorem state_late {X : Nat → Prop} (A : Option Addr) (n c : Nat) (xs : List Int) (w : World) (h : Ints w X A n c xs) (hm : n ≤ 1000000) :
    Calls Try.prog 48 #[.int .i64 n, .slice A n c] w fun e w' => e = .returned (.bool (stateB xs n)) ∧ w = w' := by
  have hl := h.len
  have hat := h.int_at
  have HL := Lib.hid hl; clear hl
  have HA := Lib.hid hat; clear hat h
  have hb : ((n : Int) != (n : Int)) = false := by simp
  go_enter Try.func48, Try.ntmps48
  go_wp2_with fail
  go_loop [5] (fun i => ∃ k : Nat, k ≤ n ∧ i = .int .i64 k ∧ AllTo triB xs k) (fun i => n - (intOf i).toNat)
  case atStart => exact ⟨0, Nat.zero_le _, rfl, AllTo.zero⟩
  case round =>
    obtain ⟨k, hk, rfl, hall⟩ := hrel
    have HALL := Lib.hid hall; clear hall
    by_cases hlt : k < n
    · obtain ⟨b, off, rfl, -, -, hc⟩ := HA.out (by omega)
      have hck := hc k hlt
      clear hc
      by_cases h1 : nth xs k < -1
      · have HF : Hid (xs.all triB = false) := all_fail (k := k) (by rw [HL.out]; exact hlt) (by simp [triB]; omega)
        go_wp2_with fail
        go_ret
        exact ⟨by simp [stateB, HL.out, HF.out], rfl⟩
      · by_cases h2 : 1 < nth xs k
        · have HF : Hid (xs.all triB = false) := all_fail (k := k) (by rw [HL.out]; exact hlt) (by simp [triB]; omega)
          go_wp2_with fail
          go_ret
          exact ⟨by simp [stateB, HL.out, HF.out], rfl⟩
        · have HT : Hid (AllTo triB xs (k + 1)) := HALL.out.step (by rw [triB_iff]; omega)
          go_wp2_with fail
          go_round
          case rel => exact ⟨k + 1, by omega, by go_num, HT.out⟩
          case measure => simp [intOf]; omega
    · have HF : Hid (xs.all triB = true) := HALL.out.full (by rw [HL.out]; omega)
      go_wp2_with fail
      go_ret
      exact ⟨by simp [stateB, HL.out, HF.out], rfl⟩

theorem stateR_any {X : Nat → Prop} (A : Option Addr) (n c m : Nat) (xs : List Int) (w : World) (h : Ints w X A n c xs) (hm : n ≤ 1000000) (hm' : m ≤ 1000000) :
    Calls Try.prog 48 #[.int .i64 m, .slice A n c] w fun e w' => e = .returned (.bool (stateB xs m)) ∧ w = w' := by
  by_cases hne : n ≠ m
  · exact state_early A n c m xs w h hm hm' hne
  · obtain rfl : n = m := by omega
    exact state_late A n c xs w h hm
end Go.Proofs.Ytipelkbdonfkoaa
