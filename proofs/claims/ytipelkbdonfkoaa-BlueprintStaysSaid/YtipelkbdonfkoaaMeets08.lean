/- Layer 8: choices, sums, Meets, Cost. -/
import Derived.Test.YtipelkbdonfkoaaValid08
namespace Go.Proofs.Ytipelkbdonfkoaa
set_option linter.unusedVariables false
open Go.RowKit

set_option maxHeartbeats 1000000 in
theorem isChoice_any {X : Nat → Prop} (A : Option Addr) (n c m : Nat) (xs : List Int) (w : World) (h : Ints w X A n c xs) (hm : n ≤ 1000000) (hm' : m ≤ 1000000) :
    Calls Try.prog 51 #[.slice A n c, .int .i64 m] w fun e w' => e = .returned (.bool (choiceB xs m)) ∧ w = w' := by
  have hl := h.len
  have hat := h.int_at
  have HL := Lib.hid hl; clear hl
  have HA := Lib.hid hat; clear hat h
  go_enter Try.func51, Try.ntmps51
  go_wp2_with fail
  go_loop [9] (fun i => ∃ k : Nat, k ≤ n ∧ i = .int .i64 k ∧ ChTo xs m k) (fun i => n - (intOf i).toNat)
  case atStart => exact ⟨0, Nat.zero_le _, rfl, ChTo.zero⟩
  case round =>
    obtain ⟨k, hk, rfl, hall⟩ := hrel
    have HALL := Lib.hid hall; clear hall
    by_cases hlt : k < n
    · obtain ⟨b, off, rfl, -, -, hc⟩ := HA.out (by omega)
      have hck := hc k hlt
      have hkl : k < xs.length := by rw [HL.out]; exact hlt
      have HBAD : Hid (choiceAt xs m k = false → choiceB xs m = false) := fun h => ch_fail hkl h
      clear hkl
      have HAT : Hid (choiceAt xs m k = (decide (0 ≤ nth xs k) && decide (nth xs k < m) && (decide (k = 0) || decide (nth xs (k - 1) < nth xs k)))) := rfl
      by_cases h1 : nth xs k < 0
      · have HF : Hid (choiceB xs m = false) := HBAD.out (by rw [HAT.out]; simp; omega)
        clear hc
        go_wp2_with fail
        go_ret
        exact ⟨by rw [HF.out]; rfl, rfl⟩
      · by_cases h2 : (m : Int) ≤ nth xs k
        · have HF : Hid (choiceB xs m = false) := HBAD.out (by rw [HAT.out]; simp; omega)
          clear hc
          go_wp2_with fail
          go_ret
          exact ⟨by rw [HF.out]; rfl, rfl⟩
        · by_cases h3 : 0 < k
          · have hcp := hc (k - 1) (by omega)
            clear hc
            by_cases h4 : nth xs k ≤ nth xs (k - 1)
            · have HF : Hid (choiceB xs m = false) := HBAD.out (by rw [HAT.out]; simp; omega)
              go_wp2_with fail
              go_ret
              exact ⟨by rw [HF.out]; rfl, rfl⟩
            · have HT : Hid (ChTo xs m (k + 1)) := HALL.out.step (by rw [HAT.out]; simp; omega)
              go_wp2_with fail
              go_round
              case rel => exact ⟨k + 1, by omega, by go_num, HT.out⟩
              case measure => simp [intOf]; omega
          · obtain rfl : k = 0 := by omega
            have HT : Hid (ChTo xs m (0 + 1)) := HALL.out.step (by rw [HAT.out]; simp; omega)
            clear hc
            simp only [Nat.add_zero] at hck
            go_wp2_with fail
            go_round
            case rel => exact ⟨1, by omega, by go_num, HT.out⟩
            case measure => simp [intOf]; omega
    · have HF : Hid (choiceB xs m = true) := HALL.out.full (by rw [HL.out]; omega)
      go_wp2_with fail
      go_ret
      exact ⟨by rw [HF.out]; rfl, rfl⟩

set_option maxHeartbeats 1000000 in
theorem choiceR_any {X : Nat → Prop} (A : Option Addr) (n c m : Nat) (xs : List Int) (w : World) (h : Ints w X A n c xs) (hm : n ≤ 1000000) (hm' : m ≤ 1000000) :
    Calls Try.prog 54 #[.int .i64 m, .slice A n c] w (BoolPost (choiceB xs m) w) := by
  have hl := h.len
  have HL := Lib.hid hl; clear hl
  have HH := Lib.hid h; clear h
  go_enter Try.func54, Try.ntmps54
  go_wp2_with fail
  go_loopw [5] (fun i wr => ∃ k : Nat, k ≤ n ∧ i = .int .i64 k ∧ ChTo xs m k ∧ Chg No w wr) (fun i _ => n - (intOf i).toNat)
  case atStart => exact ⟨0, Nat.zero_le _, rfl, ChTo.zero, Chg.refl _ _⟩
  case round =>
    obtain ⟨k, hk, rfl, hall, hch⟩ := hrel
    have HALL := Lib.hid hall; clear hall
    by_cases hlt : k < n
    · obtain ⟨b, off, rfl, -, -, hc⟩ := (HH.out.keep _ hch).int_at (by omega)
      have hck := hc k hlt
      have hkl : k < xs.length := by rw [HL.out]; exact hlt
      have HBAD : Hid (choiceAt xs m k = false → choiceB xs m = false) := fun h => ch_fail hkl h
      clear hkl
      have HAT : Hid (choiceAt xs m k = (decide (0 ≤ nth xs k) && decide (nth xs k < m) && (decide (k = 0) || decide (nth xs (k - 1) < nth xs k)))) := rfl
      have HCH := Lib.hid hch; clear hch
      have i1 : (0 : Int) ≤ (k : Int) := by omega
      have i2 : (k : Int) < (n : Int) := by omega
      by_cases h1 : nth xs k < 0
      · have HF : Hid (choiceB xs m = false) := HBAD.out (by rw [HAT.out]; simp; omega)
        clear hc
        go_wp2_with fail
        go_quiet (fail)
        go_wp2_with fail
        go_ret
        exact ⟨by rw [HF.out]; rfl, HCH.out.drewN _⟩
      · have d1 : decide (nth xs k < 0) = false := by simpa using h1
        by_cases h2 : (m : Int) ≤ nth xs k
        · have HF : Hid (choiceB xs m = false) := HBAD.out (by rw [HAT.out]; simp; omega)
          clear hc
          go_wp2_with fail
          go_quiet (fail)
          go_wp2_with fail
          go_ret
          exact ⟨by rw [HF.out]; rfl, HCH.out.drewN _⟩
        · have d2 : decide ((m : Int) ≤ nth xs k) = false := by simpa using h2
          by_cases h3 : 0 < k
          · have hcp := hc (k - 1) (by omega)
            clear hc
            have i3 : (0 : Int) ≤ (k : Int) - 1 := by omega
            have i4 : (k : Int) - 1 < (n : Int) := by omega
            have i5 : ((k : Int) - 1).toNat = k - 1 := by omega
            by_cases h4 : nth xs k ≤ nth xs (k - 1)
            · have HF : Hid (choiceB xs m = false) := HBAD.out (by rw [HAT.out]; simp; omega)
              have i6 : IntKind.i64.wrap ((k : Int) - 1) = (k : Int) - 1 := IntWalk.i64_in _ (by omega)
              go_wp2_with fail
              go_quiet (fail)
              clear i5 i6
              go_wp2_with fail
              go_ret
              exact ⟨by rw [HF.out]; rfl, HCH.out.drewN _⟩
            · have HT : Hid (ChTo xs m (k + 1)) := HALL.out.step (by rw [HAT.out]; simp; omega)
              have i6 : IntKind.i64.wrap ((k : Int) - 1) = (k : Int) - 1 := IntWalk.i64_in _ (by omega)
              go_wp2_with fail
              go_quiet (fail)
              clear i5 i6
              go_wp2_with fail
              go_roundw
              case rel => exact ⟨k + 1, by omega, by go_num, HT.out, HCH.out.drewN _⟩
              case measure => simp [intOf]; omega
          · obtain rfl : k = 0 := by omega
            have HT : Hid (ChTo xs m (0 + 1)) := HALL.out.step (by rw [HAT.out]; simp; omega)
            clear hc
            simp only [Nat.add_zero] at hck
            have d3 : decide ((0 : Int) < 0) = false := by simp
            go_wp2_with fail
            go_quiet (fail)
            go_wp2_with fail
            go_roundw
            case rel => exact ⟨1, by omega, by go_num, HT.out, HCH.out.drewN _⟩
            case measure => simp [intOf]; omega
    · have HF : Hid (choiceB xs m = true) := HALL.out.full (by rw [HL.out]; omega)
      have HCH := Lib.hid hch; clear hch
      go_wp2_with fail
      go_ret
      exact ⟨by rw [HF.out]; rfl, HCH.out⟩

/-- SUMS -/
theorem choice_in {ch : List Int} {n i : Nat} (h : choiceB ch n = true) (hi : i < ch.length) : 0 ≤ nth ch i ∧ nth ch i < n := by
  have := ChTo.of_all h i hi
  simp only [choiceAt, Bool.and_eq_true, decide_eq_true_eq] at this
  exact this.1
theorem row_in {rows : List Row} {n j : Nat} (h : rows.all (rowB n) = true) (hj : j < rows.length) : (rowAt rows j).coefs.length = n ∧ ∀ i, i < n → -10000 ≤ nth (rowAt rows j).coefs i ∧ nth (rowAt rows j).coefs i ≤ 10000 := by
  obtain ⟨h1, h2, -, -⟩ := rowB_parts (AllR.of_all h j hj)
  exact ⟨h1, fun i hi => coefB_iff.1 (AllTo.of_all h2 i (by omega))⟩
def CostPost (P : Prog) (ch : List Int) (w : World) (e : Ending) (w' : World) : Prop := e = .returned (.tuple #[.int .i64 (costF P ch), .bool (costOk P ch)]) ∧ Chg No w w'

set_option maxHeartbeats 1000000 in
theorem sumOver_any {X Y : Nat → Prop} (A B : Option Addr) (n c m d : Nat) (vs ch : List Int) (w : World) (h : Ints w X A n c vs) (h' : Ints w Y B m d ch) (hn : n ≤ 1000000) (hm : m ≤ 1000000)
    (hv : ∀ i, i < n → -10000 ≤ nth vs i ∧ nth vs i ≤ 10000) (hc : ∀ i, i < m → 0 ≤ nth ch i ∧ nth ch i < n) :
    Calls Try.prog 52 #[.slice A n c, .slice B m d] w fun e w' => e = .returned (.int .i64 (sumOf vs ch)) ∧ w = w' := by
  have HBD : Hid (∀ k, k ≤ m → -(10000 * k) ≤ sumTo vs ch k ∧ sumTo vs ch k ≤ 10000 * k) := fun k hk => sumTo_bd hv k fun i hi => hc i (by omega)
  have HL : Hid (ch.length = m) := h'.len
  have HA := Lib.hid h.int_at; clear h
  have HB := Lib.hid h'.int_at; clear h'
  have HV := Lib.hid hv; clear hv
  have HC := Lib.hid hc; clear hc
  go_enter Try.func52, Try.ntmps52
  go_wp2_with fail
  go_loop [5, 10] (fun s i => ∃ k : Nat, k ≤ m ∧ i = .int .i64 k ∧ s = .int .i64 (sumTo vs ch k)) (fun _ i => m - (intOf i).toNat)
  case atStart => exact ⟨0, Nat.zero_le _, rfl, rfl⟩
  case round =>
    obtain ⟨k, hk, rfl, rfl⟩ := hrel
    have bd := HBD.out k hk
    by_cases hlt : k < m
    · obtain ⟨b', off', rfl, -, -, hc'⟩ := HB.out (by omega)
      have hk' := hc' k hlt
      have hin := HC.out k hlt
      have hbv := HV.out (nth ch k).toNat (by omega)
      obtain ⟨b, off, rfl, -, -, hcc⟩ := HA.out (by omega)
      have hkv := hcc (nth ch k).toNat (by omega)
      clear hc' hcc
      have HE : Hid (sumTo vs ch (k + 1) = sumTo vs ch k + nth vs (nth ch k).toNat) := rfl
      generalize hq : nth ch k = q at *
      obtain ⟨q, rfl⟩ := Int.eq_ofNat_of_zero_le hin.1
      clear hq
      simp only [Int.toNat_natCast] at hkv hbv HE
      have hq : q < n := by omega
      generalize nth vs q = y at *
      generalize sumTo vs ch k = s at *
      go_wp2_with fail
      go_round
      case rel => exact ⟨k + 1, by omega, by go_num, by rw [HE.out]⟩
      case measure => simp [intOf]; omega
    · obtain rfl : k = m := by omega
      have HS : Hid (sumOf vs ch = sumTo vs ch k) := by show sumOf vs ch = _; rw [sumOf, HL.out]
      go_wp2_with fail
      go_ret
      exact ⟨by rw [HS.out]; rfl, rfl⟩

set_option maxHeartbeats 1000000 in
theorem sumR_any {X Y : Nat → Prop} (A B : Option Addr) (n c m d : Nat) (vs ch : List Int) (w : World) (h : Ints w X A n c vs) (h' : Ints w Y B m d ch) (hn : n ≤ 1000000) (hm : m ≤ 1000000)
    (hv : ∀ i, i < n → -10000 ≤ nth vs i ∧ nth vs i ≤ 10000) (hc : ∀ i, i < m → 0 ≤ nth ch i ∧ nth ch i < n) :
    Calls Try.prog 25 #[.slice A n c, .slice B m d] w fun e w' => e = .returned (.int .i64 (sumOf vs ch)) ∧ w = w' := by
  have HBD : Hid (∀ k, k ≤ m → -(10000 * k) ≤ sumTo vs ch k ∧ sumTo vs ch k ≤ 10000 * k) := fun k hk => sumTo_bd hv k fun i hi => hc i (by omega)
  have HL : Hid (ch.length = m) := h'.len
  have HA := Lib.hid h.int_at; clear h
  have HB := Lib.hid h'.int_at; clear h'
  have HV := Lib.hid hv; clear hv
  have HC := Lib.hid hc; clear hc
  go_enter Try.func25, Try.ntmps25
  go_wp2_with fail
  go_loop [5, 6] (fun s i => ∃ k : Nat, k ≤ m ∧ i = .int .i64 k ∧ s = .int .i64 (sumTo vs ch k)) (fun _ i => m - (intOf i).toNat)
  case atStart => exact ⟨0, Nat.zero_le _, rfl, rfl⟩
  case round =>
    obtain ⟨k, hk, rfl, rfl⟩ := hrel
    have bd := HBD.out k hk
    by_cases hlt : k < m
    · obtain ⟨b', off', rfl, -, -, hc'⟩ := HB.out (by omega)
      have hk' := hc' k hlt
      have hin := HC.out k hlt
      have hbv := HV.out (nth ch k).toNat (by omega)
      obtain ⟨b, off, rfl, -, -, hcc⟩ := HA.out (by omega)
      have hkv := hcc (nth ch k).toNat (by omega)
      clear hc' hcc
      have HE : Hid (sumTo vs ch (k + 1) = sumTo vs ch k + nth vs (nth ch k).toNat) := rfl
      generalize hq : nth ch k = q at *
      obtain ⟨q, rfl⟩ := Int.eq_ofNat_of_zero_le hin.1
      clear hq
      simp only [Int.toNat_natCast] at hkv hbv HE
      have hq : q < n := by omega
      generalize nth vs q = y at *
      generalize sumTo vs ch k = s at *
      go_wp2_with fail
      go_round
      case rel => exact ⟨k + 1, by omega, by go_num, by rw [HE.out]⟩
      case measure => simp [intOf]; omega
    · obtain rfl : k = m := by omega
      have HS : Hid (sumOf vs ch = sumTo vs ch k) := by show sumOf vs ch = _; rw [sumOf, HL.out]
      go_wp2_with fail
      go_ret
      exact ⟨by rw [HS.out]; rfl, rfl⟩

set_option maxHeartbeats 2000000 in
theorem meets_any {X Y : Nat → Prop} (A R B : Option Addr) (n c m d bn bd : Nat) (P : Prog) (ch : List Int) (w : World) (h : ProgAt w X A n c R m d P) (hs : Ints w Y B bn bd ch) (hn : n ≤ 1000000) (hm : m ≤ 1000000) (hbn : bn ≤ 1000000) :
    Calls Try.prog 26 #[.agg #[.slice A n c, .slice R m d], .slice B bn bd] w (BoolPost (meetsB P ch) w) := by
  obtain rfl := h.costs.len
  obtain rfl := h.rows.len
  obtain rfl := hs.len
  have g1 := Blk.made w 27 #[.slice A P.costs.length c, .slice R P.rows.length d]
  have hw0 : Chg No w (w.alloc (.cells #[.slice A P.costs.length c, .slice R P.rows.length d] 27)) := (Chg.refl _ w).alloc _
  have HH := Lib.hid (h.keep hw0); clear h
  have HS := Lib.hid (hs.keep _ hw0); clear hs
  have HG := Lib.hid g1; clear g1
  have HW := Lib.hid hw0; clear hw0
  cases hv : validB P with
  | false =>
    have HF : Hid (meetsB P ch = false) := by show meetsB P ch = false; simp [meetsB, hv]
    have HV := Lib.hid hv; clear hv
    go_enter Try.func26, Try.ntmps26
    go_wp2_with fail
    refine (valid_any A R _ c _ d P _ HH.out hn hm).mono ?_
    rintro e w1 ⟨rfl, hc1⟩
    rw [HV.out]
    have g1 := HG.out.chg hc1 no_
    have k0 : w1.cell? ⟨w.heap.size, 0, none⟩ = some (.slice A P.costs.length c) := by rw [g1.cell]; rfl
    have k1 : w1.cell? ⟨w.heap.size, 1, none⟩ = some (.slice R P.rows.length d) := by rw [g1.cell]; rfl
    have HH1 := Lib.hid (HH.out.keep hc1)
    have HS1 := Lib.hid (HS.out.keep _ hc1)
    have HG1 := Lib.hid g1
    have HC1 := Lib.hid (HW.out.trans hc1)
    clear hc1 g1
    go_wp2_with fail
    go_ret
    exact ⟨by rw [HF.out]; rfl, HC1.out⟩
  | true =>
    have HV := Lib.hid hv; clear hv
    cases hch : choiceB ch P.costs.length with
    | false =>
      have HF : Hid (meetsB P ch = false) := by show meetsB P ch = false; simp [meetsB, hch]
      have HCB := Lib.hid hch; clear hch
      go_enter Try.func26, Try.ntmps26
      go_wp2_with fail
      refine (valid_any A R _ c _ d P _ HH.out hn hm).mono ?_
      rintro e w1 ⟨rfl, hc1⟩
      rw [HV.out]
      have g1 := HG.out.chg hc1 no_
      have k0 : w1.cell? ⟨w.heap.size, 0, none⟩ = some (.slice A P.costs.length c) := by rw [g1.cell]; rfl
      have k1 : w1.cell? ⟨w.heap.size, 1, none⟩ = some (.slice R P.rows.length d) := by rw [g1.cell]; rfl
      have HH1 := Lib.hid (HH.out.keep hc1)
      have HS1 := Lib.hid (HS.out.keep _ hc1)
      have HG1 := Lib.hid g1
      have HC1 := Lib.hid (HW.out.trans hc1)
      clear hc1 g1
      go_wp2_with fail
      refine (isChoice_any B _ bd _ ch _ HS1.out hbn hn).mono ?_
      rintro e w2 ⟨rfl, rfl⟩
      rw [HCB.out]
      have hc2 := Chg.refl No w1
      have HC2 := Lib.hid (HC1.out.trans hc2)
      clear hc2
      go_wp2_with fail
      go_ret
      exact ⟨by rw [HF.out]; rfl, HC2.out⟩
    | true =>
      have HCI : Hid (∀ i, i < ch.length → 0 ≤ nth ch i ∧ nth ch i < P.costs.length) := fun i hi => choice_in hch hi
      have HCB := Lib.hid hch; clear hch
      obtain ⟨hv1, hv2, -, hv4⟩ := validB_parts HV.out
      have HRW : Hid (∀ j, j < P.rows.length → (rowAt P.rows j).coefs.length = P.costs.length ∧ ∀ i, i < P.costs.length → -10000 ≤ nth (rowAt P.rows j).coefs i ∧ nth (rowAt P.rows j).coefs i ≤ 10000) := fun j hj => row_in hv4 hj
      clear hv4
      go_enter Try.func26, Try.ntmps26
      go_wp2_with fail
      refine (valid_any A R _ c _ d P _ HH.out hn hm).mono ?_
      rintro e w1 ⟨rfl, hc1⟩
      rw [HV.out]
      have g1 := HG.out.chg hc1 no_
      have k0 : w1.cell? ⟨w.heap.size, 0, none⟩ = some (.slice A P.costs.length c) := by rw [g1.cell]; rfl
      have k1 : w1.cell? ⟨w.heap.size, 1, none⟩ = some (.slice R P.rows.length d) := by rw [g1.cell]; rfl
      have HH1 := Lib.hid (HH.out.keep hc1)
      have HS1 := Lib.hid (HS.out.keep _ hc1)
      have HG1 := Lib.hid g1
      have HC1 := Lib.hid (HW.out.trans hc1)
      clear hc1 g1
      go_wp2_with fail
      refine (isChoice_any B _ bd _ ch _ HS1.out hbn hn).mono ?_
      rintro e w2 ⟨rfl, rfl⟩
      rw [HCB.out]
      have hc2 := Chg.refl No w1
      have HC2 := Lib.hid (HC1.out.trans hc2)
      have HH2 := Lib.hid (HH1.out.keep hc2)
      have HS2 := Lib.hid (HS1.out.keep _ hc2)
      have HG2 := Lib.hid (HG1.out.chg hc2 no_)
      clear hc2
      have k0 : w1.cell? ⟨w.heap.size, 0, none⟩ = some (.slice A P.costs.length c) := by rw [HG2.out.cell]; rfl
      have k1 : w1.cell? ⟨w.heap.size, 1, none⟩ = some (.slice R P.rows.length d) := by rw [HG2.out.cell]; rfl
      go_wp2_with fail
      go_loopw [22] (fun i wr => ∃ j : Nat, j ≤ P.rows.length ∧ i = .int .i64 j ∧ AllR (meetB ch) P.rows j ∧ Chg No w1 wr) (fun i _ => P.rows.length - (intOf i).toNat)
      case atStart => exact ⟨0, Nat.zero_le _, rfl, AllR.zero, Chg.refl _ _⟩
      case round =>
        clear k0 k1
        obtain ⟨j, hj, rfl, hall, hch⟩ := hrel
        have HALL := Lib.hid hall; clear hall
        have g2 := HG2.out.chg hch no_
        have k0 : wr.cell? ⟨w.heap.size, 0, none⟩ = some (.slice A P.costs.length c) := by rw [g2.cell]; rfl
        have k1 : wr.cell? ⟨w.heap.size, 1, none⟩ = some (.slice R P.rows.length d) := by rw [g2.cell]; rfl
        have hsz := g2.lt
        clear g2
        have HP := Lib.hid (HH2.out.keep hch)
        have HSR := Lib.hid (HS2.out.keep _ hch)
        have HQ := Lib.hid (HC2.out.trans hch)
        have HCH := Lib.hid hch; clear hch
        by_cases hlt : j < P.rows.length
        · obtain ⟨b, off, rfl, hb, -, hc⟩ := HP.out.rows.row_at (by omega)
          obtain ⟨A', n', c', r0, r1, r2, hI⟩ := hc j hlt
          obtain ⟨hlen, hvals⟩ := HRW.out j hlt
          have hn' : n' = P.costs.length := hI.len.symm.trans hlen
          subst hn'
          clear hc hlen
          have HVL := Lib.hid hvals; clear hvals
          have HI := Lib.hid hI; clear hI
          have HM : Hid (meetB ch (rowAt P.rows j) = (decide ((rowAt P.rows j).least ≤ sumOf (rowAt P.rows j).coefs ch) && decide (sumOf (rowAt P.rows j).coefs ch ≤ (rowAt P.rows j).most))) := rfl
          have HBAD : Hid (meetB ch (rowAt P.rows j) = false → meetsB P ch = false) := fun h => by simp [meetsB, allR_fail hlt h]
          go_wp2_with fail
          refine (sumOver_any _ B _ _ _ bd _ ch _ (HI.out.keep _ ((Chg.refl No wr).alloc _)) (HSR.out.keep _ ((Chg.refl No wr).alloc _)) hn hbn HVL.out HCI.out).mono ?_
          rintro e w3 ⟨rfl, rfl⟩
          generalize sumOf (rowAt P.rows j).coefs ch = s at *
          by_cases h1 : s < (rowAt P.rows j).least
          · have HF : Hid (meetsB P ch = false) := HBAD.out (by rw [HM.out]; simp; omega)
            go_wp2_with fail
            go_ret
            exact ⟨by rw [HF.out]; rfl, HQ.out.alloc _⟩
          · have d1 : decide (s < (rowAt P.rows j).least) = false := by simpa using h1
            by_cases h2 : (rowAt P.rows j).most < s
            · have HF : Hid (meetsB P ch = false) := HBAD.out (by rw [HM.out]; simp; omega)
              go_wp2_with fail
              go_ret
              exact ⟨by rw [HF.out]; rfl, HQ.out.alloc _⟩
            · have HT : Hid (AllR (meetB ch) P.rows (j + 1)) := HALL.out.step (by rw [HM.out]; simp; omega)
              go_wp2_with fail
              go_roundw
              case rel => exact ⟨j + 1, by omega, by go_num, HT.out, HCH.out.alloc _⟩
              case measure => simp [intOf]; omega
        · have HF : Hid (meetsB P ch = true) := by show meetsB P ch = true; simp only [meetsB, HV.out, HCB.out, HALL.out.full (by omega : P.rows.length ≤ j), Bool.and_self]
          go_wp2_with fail
          go_ret
          exact ⟨by rw [HF.out]; rfl, HQ.out⟩

set_option maxHeartbeats 2000000 in
theorem meetsR_any {X Y : Nat → Prop} (A R B : Option Addr) (n c m d bn bd : Nat) (P : Prog) (ch : List Int) (w : World) (h : ProgAt w X A n c R m d P) (hs : Ints w Y B bn bd ch) (hn : n ≤ 1000000) (hm : m ≤ 1000000) (hbn : bn ≤ 1000000) :
    Calls Try.prog 34 #[.agg #[.slice A n c, .slice R m d], .slice B bn bd] w (BoolPost (meetsB P ch) w) := by
  obtain rfl := h.costs.len
  obtain rfl := h.rows.len
  obtain rfl := hs.len
  have g1 := Blk.made w 27 #[.slice A P.costs.length c, .slice R P.rows.length d]
  have hw0 : Chg No w (w.alloc (.cells #[.slice A P.costs.length c, .slice R P.rows.length d] 27)) := (Chg.refl _ w).alloc _
  have HH := Lib.hid (h.keep hw0); clear h
  have HS := Lib.hid (hs.keep _ hw0); clear hs
  have HG := Lib.hid g1; clear g1
  have HW := Lib.hid hw0; clear hw0
  cases hv : validB P with
  | false =>
    have HF : Hid (meetsB P ch = false) := by show meetsB P ch = false; simp [meetsB, hv]
    have HV := Lib.hid hv; clear hv
    go_enter Try.func34, Try.ntmps34
    go_wp2_with fail
    refine (validR_any A R _ c _ d P _ HH.out hn hm).mono ?_
    rintro e w1 ⟨rfl, hc1⟩
    rw [HV.out]
    have g1 := HG.out.chg hc1 no_
    have k0 : w1.cell? ⟨w.heap.size, 0, none⟩ = some (.slice A P.costs.length c) := by rw [g1.cell]; rfl
    have k1 : w1.cell? ⟨w.heap.size, 1, none⟩ = some (.slice R P.rows.length d) := by rw [g1.cell]; rfl
    have HH1 := Lib.hid (HH.out.keep hc1)
    have HS1 := Lib.hid (HS.out.keep _ hc1)
    have HG1 := Lib.hid g1
    have HC1 := Lib.hid (HW.out.trans hc1)
    clear hc1 g1
    go_wp2_with fail
    go_ret
    exact ⟨by rw [HF.out]; rfl, HC1.out⟩
  | true =>
    have HV := Lib.hid hv; clear hv
    cases hch : choiceB ch P.costs.length with
    | false =>
      have HF : Hid (meetsB P ch = false) := by show meetsB P ch = false; simp [meetsB, hch]
      have HCB := Lib.hid hch; clear hch
      go_enter Try.func34, Try.ntmps34
      go_wp2_with fail
      refine (validR_any A R _ c _ d P _ HH.out hn hm).mono ?_
      rintro e w1 ⟨rfl, hc1⟩
      rw [HV.out]
      have g1 := HG.out.chg hc1 no_
      have k0 : w1.cell? ⟨w.heap.size, 0, none⟩ = some (.slice A P.costs.length c) := by rw [g1.cell]; rfl
      have k1 : w1.cell? ⟨w.heap.size, 1, none⟩ = some (.slice R P.rows.length d) := by rw [g1.cell]; rfl
      have HH1 := Lib.hid (HH.out.keep hc1)
      have HS1 := Lib.hid (HS.out.keep _ hc1)
      have HG1 := Lib.hid g1
      have HC1 := Lib.hid (HW.out.trans hc1)
      clear hc1 g1
      go_wp2_with fail
      refine (choiceR_any B _ bd _ ch _ HS1.out hbn hn).mono ?_
      rintro e w2 ⟨rfl, hc2⟩
      rw [HCB.out]
      
      have HC2 := Lib.hid (HC1.out.trans hc2)
      clear hc2
      go_wp2_with fail
      go_ret
      exact ⟨by rw [HF.out]; rfl, HC2.out⟩
    | true =>
      have HCI : Hid (∀ i, i < ch.length → 0 ≤ nth ch i ∧ nth ch i < P.costs.length) := fun i hi => choice_in hch hi
      have HCB := Lib.hid hch; clear hch
      obtain ⟨hv1, hv2, -, hv4⟩ := validB_parts HV.out
      have HRW : Hid (∀ j, j < P.rows.length → (rowAt P.rows j).coefs.length = P.costs.length ∧ ∀ i, i < P.costs.length → -10000 ≤ nth (rowAt P.rows j).coefs i ∧ nth (rowAt P.rows j).coefs i ≤ 10000) := fun j hj => row_in hv4 hj
      clear hv4
      go_enter Try.func34, Try.ntmps34
      go_wp2_with fail
      refine (validR_any A R _ c _ d P _ HH.out hn hm).mono ?_
      rintro e w1 ⟨rfl, hc1⟩
      rw [HV.out]
      have g1 := HG.out.chg hc1 no_
      have k0 : w1.cell? ⟨w.heap.size, 0, none⟩ = some (.slice A P.costs.length c) := by rw [g1.cell]; rfl
      have k1 : w1.cell? ⟨w.heap.size, 1, none⟩ = some (.slice R P.rows.length d) := by rw [g1.cell]; rfl
      have HH1 := Lib.hid (HH.out.keep hc1)
      have HS1 := Lib.hid (HS.out.keep _ hc1)
      have HG1 := Lib.hid g1
      have HC1 := Lib.hid (HW.out.trans hc1)
      clear hc1 g1
      go_wp2_with fail
      refine (choiceR_any B _ bd _ ch _ HS1.out hbn hn).mono ?_
      rintro e w2 ⟨rfl, hc2⟩
      rw [HCB.out]
      
      have HC2 := Lib.hid (HC1.out.trans hc2)
      have HH2 := Lib.hid (HH1.out.keep hc2)
      have HS2 := Lib.hid (HS1.out.keep _ hc2)
      have HG2 := Lib.hid (HG1.out.chg hc2 no_)
      clear hc2
      have k0 : w2.cell? ⟨w.heap.size, 0, none⟩ = some (.slice A P.costs.length c) := by rw [HG2.out.cell]; rfl
      have k1 : w2.cell? ⟨w.heap.size, 1, none⟩ = some (.slice R P.rows.length d) := by rw [HG2.out.cell]; rfl
      go_wp2_with fail
      go_loopw [5] (fun i wr => ∃ j : Nat, j ≤ P.rows.length ∧ i = .int .i64 j ∧ AllR (meetB ch) P.rows j ∧ Chg No w2 wr) (fun i _ => P.rows.length - (intOf i).toNat)
      case atStart => exact ⟨0, Nat.zero_le _, rfl, AllR.zero, Chg.refl _ _⟩
      case round =>
        clear k0 k1
        obtain ⟨j, hj, rfl, hall, hch⟩ := hrel
        have HALL := Lib.hid hall; clear hall
        have g2 := HG2.out.chg hch no_
        have k0 : wr.cell? ⟨w.heap.size, 0, none⟩ = some (.slice A P.costs.length c) := by rw [g2.cell]; rfl
        have k1 : wr.cell? ⟨w.heap.size, 1, none⟩ = some (.slice R P.rows.length d) := by rw [g2.cell]; rfl
        have hsz := g2.lt
        clear g2
        have HP := Lib.hid (HH2.out.keep hch)
        have HSR := Lib.hid (HS2.out.keep _ hch)
        have HQ := Lib.hid (HC2.out.trans hch)
        have HCH := Lib.hid hch; clear hch
        by_cases hlt : j < P.rows.length
        · obtain ⟨b, off, rfl, hb, -, hc⟩ := HP.out.rows.row_at (by omega)
          obtain ⟨A', n', c', r0, r1, r2, hI⟩ := hc j hlt
          obtain ⟨hlen, hvals⟩ := HRW.out j hlt
          have hn' : n' = P.costs.length := hI.len.symm.trans hlen
          subst hn'
          clear hc hlen
          have HVL := Lib.hid hvals; clear hvals
          have HI := Lib.hid hI; clear hI
          have HM : Hid (meetB ch (rowAt P.rows j) = (decide ((rowAt P.rows j).least ≤ sumOf (rowAt P.rows j).coefs ch) && decide (sumOf (rowAt P.rows j).coefs ch ≤ (rowAt P.rows j).most))) := rfl
          have HBAD : Hid (meetB ch (rowAt P.rows j) = false → meetsB P ch = false) := fun h => by simp [meetsB, allR_fail hlt h]
          go_wp2_with fail
          refine (sumR_any _ B _ _ _ bd _ ch _ HI.out HSR.out hn hbn HVL.out HCI.out).mono ?_
          rintro e w3 ⟨rfl, rfl⟩
          generalize sumOf (rowAt P.rows j).coefs ch = s at *
          by_cases h1 : s < (rowAt P.rows j).least
          · have HF : Hid (meetsB P ch = false) := HBAD.out (by rw [HM.out]; simp; omega)
            go_wp2_with fail
            go_ret
            exact ⟨by rw [HF.out]; rfl, HQ.out⟩
          · have d1 : decide (s < (rowAt P.rows j).least) = false := by simpa using h1
            by_cases h2 : (rowAt P.rows j).most < s
            · have HF : Hid (meetsB P ch = false) := HBAD.out (by rw [HM.out]; simp; omega)
              go_wp2_with fail
              go_ret
              exact ⟨by rw [HF.out]; rfl, HQ.out⟩
            · have HT : Hid (AllR (meetB ch) P.rows (j + 1)) := HALL.out.step (by rw [HM.out]; simp; omega)
              go_wp2_with fail
              go_roundw
              case rel => exact ⟨j + 1, by omega, by go_num, HT.out, HCH.out⟩
              case measure => simp [intOf]; omega
        · have HF : Hid (meetsB P ch = true) := by show meetsB P ch = true; simp only [meetsB, HV.out, HCB.out, HALL.out.full (by omega : P.rows.length ≤ j), Bool.and_self]
          go_wp2_with fail
          go_ret
          exact ⟨by rw [HF.out]; rfl, HQ.out⟩

set_option maxHeartbeats 2000000 in
theorem cost_any {X Y : Nat → Prop} (A R B : Option Addr) (n c m d bn bd : Nat) (P : Prog) (ch : List Int) (w : World) (h : ProgAt w X A n c R m d P) (hs : Ints w Y B bn bd ch) (hn : n ≤ 1000000) (hm : m ≤ 1000000) (hbn : bn ≤ 1000000) :
    Calls Try.prog 30 #[.agg #[.slice A n c, .slice R m d], .slice B bn bd] w (CostPost P ch w) := by
  obtain rfl := h.costs.len
  obtain rfl := h.rows.len
  obtain rfl := hs.len
  have g1 := Blk.made w 27 #[.slice A P.costs.length c, .slice R P.rows.length d]
  have hw0 : Chg No w (w.alloc (.cells #[.slice A P.costs.length c, .slice R P.rows.length d] 27)) := (Chg.refl _ w).alloc _
  have HH := Lib.hid (h.keep hw0); clear h
  have HS := Lib.hid (hs.keep _ hw0); clear hs
  have HG := Lib.hid g1; clear g1
  have HW := Lib.hid hw0; clear hw0
  cases hv : validB P with
  | false =>
    have HF : Hid (costOk P ch = false) := by show costOk P ch = false; simp [costOk, hv]
    have HV := Lib.hid hv; clear hv
    go_enter Try.func30, Try.ntmps30
    go_wp2_with fail
    refine (valid_any A R _ c _ d P _ HH.out hn hm).mono ?_
    rintro e w1 ⟨rfl, hc1⟩
    rw [HV.out]
    have g1 := HG.out.chg hc1 no_
    have k0 : w1.cell? ⟨w.heap.size, 0, none⟩ = some (.slice A P.costs.length c) := by rw [g1.cell]; rfl
    have k1 : w1.cell? ⟨w.heap.size, 1, none⟩ = some (.slice R P.rows.length d) := by rw [g1.cell]; rfl
    have HH1 := Lib.hid (HH.out.keep hc1)
    have HS1 := Lib.hid (HS.out.keep _ hc1)
    have HG1 := Lib.hid g1
    have HC1 := Lib.hid (HW.out.trans hc1)
    clear hc1 g1
    go_wp2_with fail
    go_ret2
    exact ⟨by rw [costF, HF.out]; rfl, HC1.out⟩
  | true =>
    have HV := Lib.hid hv; clear hv
    cases hch : choiceB ch P.costs.length with
    | false =>
      have HF : Hid (costOk P ch = false) := by show costOk P ch = false; simp [costOk, hch]
      have HCB := Lib.hid hch; clear hch
      go_enter Try.func30, Try.ntmps30
      go_wp2_with fail
      refine (valid_any A R _ c _ d P _ HH.out hn hm).mono ?_
      rintro e w1 ⟨rfl, hc1⟩
      rw [HV.out]
      have g1 := HG.out.chg hc1 no_
      have k0 : w1.cell? ⟨w.heap.size, 0, none⟩ = some (.slice A P.costs.length c) := by rw [g1.cell]; rfl
      have k1 : w1.cell? ⟨w.heap.size, 1, none⟩ = some (.slice R P.rows.length d) := by rw [g1.cell]; rfl
      have HH1 := Lib.hid (HH.out.keep hc1)
      have HS1 := Lib.hid (HS.out.keep _ hc1)
      have HG1 := Lib.hid g1
      have HC1 := Lib.hid (HW.out.trans hc1)
      clear hc1 g1
      go_wp2_with fail
      refine (isChoice_any B _ bd _ ch _ HS1.out hbn hn).mono ?_
      rintro e w2 ⟨rfl, rfl⟩
      rw [HCB.out]
      have hc2 := Chg.refl No w1
      have HC2 := Lib.hid (HC1.out.trans hc2)
      clear hc2
      go_wp2_with fail
      go_ret2
      exact ⟨by rw [costF, HF.out]; rfl, HC2.out⟩
    | true =>
      have HCI : Hid (∀ i, i < ch.length → 0 ≤ nth ch i ∧ nth ch i < P.costs.length) := fun i hi => choice_in hch hi
      have HCB := Lib.hid hch; clear hch
      obtain ⟨hv1, hv2, hv4, -⟩ := validB_parts HV.out
      have HVL : Hid (∀ i, i < P.costs.length → -10000 ≤ nth P.costs i ∧ nth P.costs i ≤ 10000) := fun i hi => by have := costB_iff.1 (AllTo.of_all hv4 i hi); omega
      clear hv4
      go_enter Try.func30, Try.ntmps30
      go_wp2_with fail
      refine (valid_any A R _ c _ d P _ HH.out hn hm).mono ?_
      rintro e w1 ⟨rfl, hc1⟩
      rw [HV.out]
      have g1 := HG.out.chg hc1 no_
      have k0 : w1.cell? ⟨w.heap.size, 0, none⟩ = some (.slice A P.costs.length c) := by rw [g1.cell]; rfl
      have k1 : w1.cell? ⟨w.heap.size, 1, none⟩ = some (.slice R P.rows.length d) := by rw [g1.cell]; rfl
      have HH1 := Lib.hid (HH.out.keep hc1)
      have HS1 := Lib.hid (HS.out.keep _ hc1)
      have HG1 := Lib.hid g1
      have HC1 := Lib.hid (HW.out.trans hc1)
      clear hc1 g1
      go_wp2_with fail
      refine (isChoice_any B _ bd _ ch _ HS1.out hbn hn).mono ?_
      rintro e w2 ⟨rfl, rfl⟩
      rw [HCB.out]
      have hc2 := Chg.refl No w1
      have HC2 := Lib.hid (HC1.out.trans hc2)
      have HH2 := Lib.hid (HH1.out.keep hc2)
      have HS2 := Lib.hid (HS1.out.keep _ hc2)
      have HG2 := Lib.hid (HG1.out.chg hc2 no_)
      clear hc2
      have k0 : w1.cell? ⟨w.heap.size, 0, none⟩ = some (.slice A P.costs.length c) := by rw [HG2.out.cell]; rfl
      have k1 : w1.cell? ⟨w.heap.size, 1, none⟩ = some (.slice R P.rows.length d) := by rw [HG2.out.cell]; rfl
      have HT : Hid (costOk P ch = true) := by show costOk P ch = true; simp [costOk, HV.out, HCB.out]
      go_wp2_with fail
      refine (sumOver_any _ B _ _ _ bd _ ch _ HH2.out.costs HS2.out hn hbn HVL.out HCI.out).mono ?_
      rintro e w3 ⟨rfl, rfl⟩
      go_wp2_with fail
      go_ret2
      exact ⟨by rw [costF, HT.out]; rfl, HC2.out⟩

set_option maxHeartbeats 2000000 in
theorem costR_any {X Y : Nat → Prop} (A R B : Option Addr) (n c m d bn bd : Nat) (P : Prog) (ch : List Int) (w : World) (h : ProgAt w X A n c R m d P) (hs : Ints w Y B bn bd ch) (hn : n ≤ 1000000) (hm : m ≤ 1000000) (hbn : bn ≤ 1000000) :
    Calls Try.prog 31 #[.agg #[.slice A n c, .slice R m d], .slice B bn bd] w (CostPost P ch w) := by
  obtain rfl := h.costs.len
  obtain rfl := h.rows.len
  obtain rfl := hs.len
  have g1 := Blk.made w 27 #[.slice A P.costs.length c, .slice R P.rows.length d]
  have hw0 : Chg No w (w.alloc (.cells #[.slice A P.costs.length c, .slice R P.rows.length d] 27)) := (Chg.refl _ w).alloc _
  have HH := Lib.hid (h.keep hw0); clear h
  have HS := Lib.hid (hs.keep _ hw0); clear hs
  have HG := Lib.hid g1; clear g1
  have HW := Lib.hid hw0; clear hw0
  cases hv : validB P with
  | false =>
    have HF : Hid (costOk P ch = false) := by show costOk P ch = false; simp [costOk, hv]
    have HV := Lib.hid hv; clear hv
    go_enter Try.func31, Try.ntmps31
    go_wp2_with fail
    refine (validR_any A R _ c _ d P _ HH.out hn hm).mono ?_
    rintro e w1 ⟨rfl, hc1⟩
    rw [HV.out]
    have g1 := HG.out.chg hc1 no_
    have k0 : w1.cell? ⟨w.heap.size, 0, none⟩ = some (.slice A P.costs.length c) := by rw [g1.cell]; rfl
    have k1 : w1.cell? ⟨w.heap.size, 1, none⟩ = some (.slice R P.rows.length d) := by rw [g1.cell]; rfl
    have HH1 := Lib.hid (HH.out.keep hc1)
    have HS1 := Lib.hid (HS.out.keep _ hc1)
    have HG1 := Lib.hid g1
    have HC1 := Lib.hid (HW.out.trans hc1)
    clear hc1 g1
    go_wp2_with fail
    go_ret2
    exact ⟨by rw [costF, HF.out]; rfl, HC1.out⟩
  | true =>
    have HV := Lib.hid hv; clear hv
    cases hch : choiceB ch P.costs.length with
    | false =>
      have HF : Hid (costOk P ch = false) := by show costOk P ch = false; simp [costOk, hch]
      have HCB := Lib.hid hch; clear hch
      go_enter Try.func31, Try.ntmps31
      go_wp2_with fail
      refine (validR_any A R _ c _ d P _ HH.out hn hm).mono ?_
      rintro e w1 ⟨rfl, hc1⟩
      rw [HV.out]
      have g1 := HG.out.chg hc1 no_
      have k0 : w1.cell? ⟨w.heap.size, 0, none⟩ = some (.slice A P.costs.length c) := by rw [g1.cell]; rfl
      have k1 : w1.cell? ⟨w.heap.size, 1, none⟩ = some (.slice R P.rows.length d) := by rw [g1.cell]; rfl
      have HH1 := Lib.hid (HH.out.keep hc1)
      have HS1 := Lib.hid (HS.out.keep _ hc1)
      have HG1 := Lib.hid g1
      have HC1 := Lib.hid (HW.out.trans hc1)
      clear hc1 g1
      go_wp2_with fail
      refine (choiceR_any B _ bd _ ch _ HS1.out hbn hn).mono ?_
      rintro e w2 ⟨rfl, hc2⟩
      rw [HCB.out]
      
      have HC2 := Lib.hid (HC1.out.trans hc2)
      clear hc2
      go_wp2_with fail
      go_ret2
      exact ⟨by rw [costF, HF.out]; rfl, HC2.out⟩
    | true =>
      have HCI : Hid (∀ i, i < ch.length → 0 ≤ nth ch i ∧ nth ch i < P.costs.length) := fun i hi => choice_in hch hi
      have HCB := Lib.hid hch; clear hch
      obtain ⟨hv1, hv2, hv4, -⟩ := validB_parts HV.out
      have HVL : Hid (∀ i, i < P.costs.length → -10000 ≤ nth P.costs i ∧ nth P.costs i ≤ 10000) := fun i hi => by have := costB_iff.1 (AllTo.of_all hv4 i hi); omega
      clear hv4
      go_enter Try.func31, Try.ntmps31
      go_wp2_with fail
      refine (validR_any A R _ c _ d P _ HH.out hn hm).mono ?_
      rintro e w1 ⟨rfl, hc1⟩
      rw [HV.out]
      have g1 := HG.out.chg hc1 no_
      have k0 : w1.cell? ⟨w.heap.size, 0, none⟩ = some (.slice A P.costs.length c) := by rw [g1.cell]; rfl
      have k1 : w1.cell? ⟨w.heap.size, 1, none⟩ = some (.slice R P.rows.length d) := by rw [g1.cell]; rfl
      have HH1 := Lib.hid (HH.out.keep hc1)
      have HS1 := Lib.hid (HS.out.keep _ hc1)
      have HG1 := Lib.hid g1
      have HC1 := Lib.hid (HW.out.trans hc1)
      clear hc1 g1
      go_wp2_with fail
      refine (choiceR_any B _ bd _ ch _ HS1.out hbn hn).mono ?_
      rintro e w2 ⟨rfl, hc2⟩
      rw [HCB.out]
      
      have HC2 := Lib.hid (HC1.out.trans hc2)
      have HH2 := Lib.hid (HH1.out.keep hc2)
      have HS2 := Lib.hid (HS1.out.keep _ hc2)
      have HG2 := Lib.hid (HG1.out.chg hc2 no_)
      clear hc2
      have k0 : w2.cell? ⟨w.heap.size, 0, none⟩ = some (.slice A P.costs.length c) := by rw [HG2.out.cell]; rfl
      have k1 : w2.cell? ⟨w.heap.size, 1, none⟩ = some (.slice R P.rows.length d) := by rw [HG2.out.cell]; rfl
      have HT : Hid (costOk P ch = true) := by show costOk P ch = true; simp [costOk, HV.out, HCB.out]
      go_wp2_with fail
      refine (sumR_any _ B _ _ _ bd _ ch _ HH2.out.costs HS2.out hn hbn HVL.out HCI.out).mono ?_
      rintro e w3 ⟨rfl, rfl⟩
      go_wp2_with fail
      go_ret2
      exact ⟨by rw [costF, HT.out]; rfl, HC2.out⟩
end Go.Proofs.Ytipelkbdonfkoaa
