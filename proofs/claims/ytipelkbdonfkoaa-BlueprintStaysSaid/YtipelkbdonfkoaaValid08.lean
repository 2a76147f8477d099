/- Layer 8: Valid, of the program and of the reference. -/
import Derived.Test.YtipelkbdonfkoaaRead08
namespace Go.Proofs.Ytipelkbdonfkoaa
set_option linter.unusedVariables false
open Go.RowKit

def BoolPost (b : Bool) (w : World) (e : Ending) (w' : World) : Prop := e = .returned (.bool b) ∧ Chg No w w'
theorem validB_big {P : Prog} (h : 12 < P.costs.length ∨ 60 < P.rows.length) : validB P = false := by
  rcases h with h | h
  · have : ¬ P.costs.length ≤ 12 := by omega
    simp [validB, this]
  · have : ¬ P.rows.length ≤ 60 := by omega
    simp [validB, this]
theorem validB_cost {P : Prog} (h : P.costs.all costB = false) : validB P = false := by simp [validB, h]
theorem validB_row {P : Prog} {k : Nat} (hk : k < P.rows.length) (h : rowB P.costs.length (rowAt P.rows k) = false) : validB P = false := by simp [validB, allR_fail hk h]

set_option maxHeartbeats 2000000 in
theorem valid_any {X : Nat → Prop} (A R : Option Addr) (n c m d : Nat) (P : Prog) (w : World) (h : ProgAt w X A n c R m d P) (hn : n ≤ 1000000) (hm : m ≤ 1000000) :
    Calls Try.prog 32 #[.agg #[.slice A n c, .slice R m d]] w (BoolPost (validB P) w) := by
  obtain rfl := h.costs.len
  obtain rfl := h.rows.len
  have g1 := Blk.made w 27 #[.slice A P.costs.length c, .slice R P.rows.length d]
  have hw0 : Chg No w (w.alloc (.cells #[.slice A P.costs.length c, .slice R P.rows.length d] 27)) := (Chg.refl _ w).alloc _
  have h0 := h.keep hw0
  have HH := Lib.hid h0; clear h0 h
  have HG := Lib.hid g1; clear g1
  have HW := Lib.hid hw0; clear hw0
  by_cases h12 : 12 < P.costs.length
  · have HF : Hid (validB P = false) := validB_big (.inl h12)
    go_enter Try.func32, Try.ntmps32
    go_wp2_with fail
    go_ret
    exact ⟨by rw [HF.out]; rfl, HW.out⟩
  · have hd12 : decide (12 < P.costs.length) = false := by simpa using h12
    by_cases h60 : 60 < P.rows.length
    · have HF : Hid (validB P = false) := validB_big (.inr h60)
      go_enter Try.func32, Try.ntmps32
      go_wp2_with fail
      go_ret
      exact ⟨by rw [HF.out]; rfl, HW.out⟩
    · go_enter Try.func32, Try.ntmps32
      go_wp2_with fail
      go_loop [20] (fun i => ∃ k : Nat, k ≤ P.costs.length ∧ i = .int .i64 k ∧ AllTo costB P.costs k) (fun i => P.costs.length - (intOf i).toNat)
      case atStart => exact ⟨0, Nat.zero_le _, rfl, AllTo.zero⟩
      case round =>
        obtain ⟨k, hk, rfl, hall⟩ := hrel
        have HALL := Lib.hid hall; clear hall
        by_cases hlt : k < P.costs.length
        · obtain ⟨b, off, rfl, -, -, hc⟩ := HH.out.costs.int_at (by omega)
          have hck := hc k hlt
          clear hc
          by_cases h1 : nth P.costs k < 0
          · have HF : Hid (validB P = false) := validB_cost (all_fail hlt (by simp [costB]; omega))
            go_wp2_with fail
            go_ret
            exact ⟨by rw [HF.out]; rfl, HW.out⟩
          · by_cases h2 : 10000 < nth P.costs k
            · have HF : Hid (validB P = false) := validB_cost (all_fail hlt (by simp [costB]; omega))
              go_wp2_with fail
              go_ret
              exact ⟨by rw [HF.out]; rfl, HW.out⟩
            · have HT : Hid (AllTo costB P.costs (k + 1)) := HALL.out.step (by rw [costB_iff]; omega)
              go_wp2_with fail
              go_round
              case rel => exact ⟨k + 1, by omega, by go_num, HT.out⟩
              case measure => simp [intOf]; omega
        · have HC : Hid (P.costs.all costB = true) := HALL.out.full (by omega)
          clear HALL
          go_wp2_with fail
          go_loopw [34] (fun i wr => ∃ j : Nat, j ≤ P.rows.length ∧ i = .int .i64 j ∧ AllR (rowB P.costs.length) P.rows j ∧ Chg No (w.alloc (.cells #[.slice A P.costs.length c, .slice R P.rows.length d] 27)) wr) (fun i _ => P.rows.length - (intOf i).toNat)
          case atStart => exact ⟨0, Nat.zero_le _, rfl, AllR.zero, Chg.refl _ _⟩
          case round =>
            obtain ⟨j, hj, rfl, hall, hch⟩ := hrel
            have HALL := Lib.hid hall; clear hall
            have HQ := HW.out.trans hch
            have hP := HH.out.keep hch
            have hg := HG.out.chg hch no_
            have hcl := hg.cell 0
            have hsz := hg.lt
            simp only [List.getElem?_toArray, List.getElem?_cons_zero] at hcl
            have HCH := Lib.hid hch; clear hch hg
            have HPP := Lib.hid hP; clear hP
            have HQQ := Lib.hid HQ; clear HQ
            by_cases hlt : j < P.rows.length
            · obtain ⟨b, off, rfl, hb, -, hc⟩ := HPP.out.rows.row_at (by omega)
              obtain ⟨A', n', c', k0, k1, k2, hI⟩ := hc j hlt
              obtain rfl := hI.len
              have hcp := hI.cap
              clear hc
              have HI := Lib.hid (fun o => hI.keep _ ((Chg.refl No wr).alloc o)); clear hI
              have hbad := fun h => validB_row hlt h
              have HBAD := Lib.hid hbad; clear hbad
              have HRB : Hid (rowB P.costs.length (rowAt P.rows j) = (decide ((rowAt P.rows j).coefs.length = P.costs.length) && validCoefsB (rowAt P.rows j).coefs && boundB (rowAt P.rows j).least && boundB (rowAt P.rows j).most)) := rfl
              by_cases hlen : (rowAt P.rows j).coefs.length = P.costs.length
              · have hbn : (((rowAt P.rows j).coefs.length : Int) != (P.costs.length : Int)) = false := by simp [hlen]
                have HLN := Lib.hid hlen
                have hlb : (rowAt P.rows j).coefs.length ≤ 1000000 := by omega
                clear hlen
                cases hv : validCoefsB (rowAt P.rows j).coefs with
                | false =>
                  have HF : Hid (validB P = false) := HBAD.out (by rw [HRB.out, hv]; simp)
                  have HV := Lib.hid hv; clear hv
                  go_wp2_with fail
                  refine (validCoefs_any _ _ _ _ _ (HI.out _) hlb).mono ?_
                  rintro e w1 ⟨rfl, rfl⟩
                  rw [HV.out]
                  go_wp2_with fail
                  go_ret
                  exact ⟨by rw [HF.out]; rfl, HQQ.out.alloc _⟩
                | true =>
                  have HV := Lib.hid hv; clear hv
                  cases hb1 : boundB (rowAt P.rows j).least with
                  | false =>
                    have HF : Hid (validB P = false) := HBAD.out (by rw [HRB.out, hb1]; simp)
                    have HB1 := Lib.hid hb1; clear hb1
                    go_wp2_with fail
                    refine (validCoefs_any _ _ _ _ _ (HI.out _) hlb).mono ?_
                    rintro e w1 ⟨rfl, rfl⟩
                    rw [HV.out]
                    go_wp2_with fail
                    refine (isBound_any _ _).mono ?_
                    rintro e w1 ⟨rfl, rfl⟩
                    rw [HB1.out]
                    go_wp2_with fail
                    go_ret
                    exact ⟨by rw [HF.out]; rfl, HQQ.out.alloc _⟩
                  | true =>
                    have HB1 := Lib.hid hb1; clear hb1
                    cases hb2 : boundB (rowAt P.rows j).most with
                    | false =>
                      have HF : Hid (validB P = false) := HBAD.out (by rw [HRB.out, hb2]; simp)
                      have HB2 := Lib.hid hb2; clear hb2
                      go_wp2_with fail
                      refine (validCoefs_any _ _ _ _ _ (HI.out _) hlb).mono ?_
                      rintro e w1 ⟨rfl, rfl⟩
                      rw [HV.out]
                      go_wp2_with fail
                      refine (isBound_any _ _).mono ?_
                      rintro e w1 ⟨rfl, rfl⟩
                      rw [HB1.out]
                      go_wp2_with fail
                      refine (isBound_any _ _).mono ?_
                      rintro e w1 ⟨rfl, rfl⟩
                      rw [HB2.out]
                      go_wp2_with fail
                      go_ret
                      exact ⟨by rw [HF.out]; rfl, HQQ.out.alloc _⟩
                    | true =>
                      have HN : Hid (AllR (rowB P.costs.length) P.rows (j + 1)) := HALL.out.step (by rw [HRB.out, HV.out, HB1.out, hb2]; simp [HLN.out])
                      have HB2 := Lib.hid hb2; clear hb2
                      go_wp2_with fail
                      refine (validCoefs_any _ _ _ _ _ (HI.out _) hlb).mono ?_
                      rintro e w1 ⟨rfl, rfl⟩
                      rw [HV.out]
                      go_wp2_with fail
                      refine (isBound_any _ _).mono ?_
                      rintro e w1 ⟨rfl, rfl⟩
                      rw [HB1.out]
                      go_wp2_with fail
                      refine (isBound_any _ _).mono ?_
                      rintro e w1 ⟨rfl, rfl⟩
                      rw [HB2.out]
                      go_wp2_with fail
                      go_roundw
                      case rel => exact ⟨j + 1, by omega, by go_num, HN.out, HCH.out.alloc _⟩
                      case measure => simp [intOf]; omega
              · have hbn : (((rowAt P.rows j).coefs.length : Int) != (P.costs.length : Int)) = true := by simp; omega
                have HF : Hid (validB P = false) := HBAD.out (by rw [HRB.out]; simp [hlen])
                clear hlen
                go_wp2_with fail
                go_ret
                exact ⟨by rw [HF.out]; rfl, HQQ.out.alloc _⟩
            · have HF : Hid (validB P = true) := by
                show validB P = true
                have h60' : P.rows.length ≤ 60 := by omega
                have h12' : P.costs.length ≤ 12 := by omega
                simp only [validB, HC.out, HALL.out.full (by omega : P.rows.length ≤ j), h60', h12', decide_true, Bool.and_self]
              go_wp2_with fail
              go_ret
              exact ⟨by rw [HF.out]; rfl, HQQ.out⟩

theorem insideB_cost (x : Int) : insideB x 10000 = costB x := rfl
set_option maxHeartbeats 2000000 in
theorem validR_any {X : Nat → Prop} (A R : Option Addr) (n c m d : Nat) (P : Prog) (w : World) (h : ProgAt w X A n c R m d P) (hn : n ≤ 1000000) (hm : m ≤ 1000000) :
    Calls Try.prog 33 #[.agg #[.slice A n c, .slice R m d]] w (BoolPost (validB P) w) := by
  obtain rfl := h.costs.len
  obtain rfl := h.rows.len
  have g1 := Blk.made w 27 #[.slice A P.costs.length c, .slice R P.rows.length d]
  have hw0 : Chg No w (w.alloc (.cells #[.slice A P.costs.length c, .slice R P.rows.length d] 27)) := (Chg.refl _ w).alloc _
  have h0 := h.keep hw0
  have HH := Lib.hid h0; clear h0 h
  have HG := Lib.hid g1; clear g1
  have HW := Lib.hid hw0; clear hw0
  by_cases h12 : 12 < P.costs.length
  · have HF : Hid (validB P = false) := validB_big (.inl h12)
    go_enter Try.func33, Try.ntmps33
    go_wp2_with fail
    go_ret
    exact ⟨by rw [HF.out]; rfl, HW.out⟩
  · have hd12 : decide (12 < P.costs.length) = false := by simpa using h12
    by_cases h60 : 60 < P.rows.length
    · have HF : Hid (validB P = false) := validB_big (.inr h60)
      go_enter Try.func33, Try.ntmps33
      go_wp2_with fail
      go_ret
      exact ⟨by rw [HF.out]; rfl, HW.out⟩
    · go_enter Try.func33, Try.ntmps33
      go_wp2_with fail
      go_loop [3] (fun i => ∃ k : Nat, k ≤ P.costs.length ∧ i = .int .i64 k ∧ AllTo costB P.costs k) (fun i => P.costs.length - (intOf i).toNat)
      case atStart => exact ⟨0, Nat.zero_le _, rfl, AllTo.zero⟩
      case round =>
        obtain ⟨k, hk, rfl, hall⟩ := hrel
        have HALL := Lib.hid hall; clear hall
        by_cases hlt : k < P.costs.length
        · obtain ⟨b, off, rfl, -, -, hc⟩ := HH.out.costs.int_at (by omega)
          have hck := hc k hlt
          clear hc
          cases hcb : costB (nth P.costs k) with
          | false =>
            have HF : Hid (validB P = false) := validB_cost (all_fail hlt hcb)
            have HCB := Lib.hid hcb; clear hcb
            go_wp2_with fail
            refine (inside_any _ _ _).mono ?_
            rintro e w1 ⟨rfl, rfl⟩
            rw [insideB_cost, HCB.out]
            go_wp2_with fail
            go_ret
            exact ⟨by rw [HF.out]; rfl, HW.out⟩
          | true =>
            have HT : Hid (AllTo costB P.costs (k + 1)) := HALL.out.step hcb
            have HCB := Lib.hid hcb; clear hcb
            go_wp2_with fail
            refine (inside_any _ _ _).mono ?_
            rintro e w1 ⟨rfl, rfl⟩
            rw [insideB_cost, HCB.out]
            go_wp2_with fail
            go_round
            case rel => exact ⟨k + 1, by omega, by go_num, HT.out⟩
            case measure => simp [intOf]; omega
        · have HC : Hid (P.costs.all costB = true) := HALL.out.full (by omega)
          clear HALL
          go_wp2_with fail
          go_loopw [4] (fun i wr => ∃ j : Nat, j ≤ P.rows.length ∧ i = .int .i64 j ∧ AllR (rowB P.costs.length) P.rows j ∧ Chg No (w.alloc (.cells #[.slice A P.costs.length c, .slice R P.rows.length d] 27)) wr) (fun i _ => P.rows.length - (intOf i).toNat)
          case atStart => exact ⟨0, Nat.zero_le _, rfl, AllR.zero, Chg.refl _ _⟩
          case round =>
            obtain ⟨j, hj, rfl, hall, hch⟩ := hrel
            have HALL := Lib.hid hall; clear hall
            have HQ := HW.out.trans hch
            have hP := HH.out.keep hch
            have hg := HG.out.chg hch no_
            have hcl := hg.cell 0
            have hcl1 := hg.cell 1
            have hsz := hg.lt
            simp only [List.getElem?_toArray, List.getElem?_cons_zero, List.getElem?_cons_succ] at hcl hcl1
            have HCH := Lib.hid hch; clear hch hg
            have HPP := Lib.hid hP; clear hP
            have HQQ := Lib.hid HQ; clear HQ
            by_cases hlt : j < P.rows.length
            · obtain ⟨b, off, rfl, hb, -, hc⟩ := HPP.out.rows.row_at (by omega)
              obtain ⟨A', n', c', k0, k1, k2, hI⟩ := hc j hlt
              obtain rfl := hI.len
              have hcp := hI.cap
              clear hc
              have HI := Lib.hid (fun o => hI.keep _ ((Chg.refl No wr).alloc o)); clear hI
              have hbad := fun h => validB_row hlt h
              have HBAD := Lib.hid hbad; clear hbad
              have HRB : Hid (rowB P.costs.length (rowAt P.rows j) = (decide ((rowAt P.rows j).coefs.length = P.costs.length) && validCoefsB (rowAt P.rows j).coefs && boundB (rowAt P.rows j).least && boundB (rowAt P.rows j).most)) := rfl
              by_cases hlen : (rowAt P.rows j).coefs.length = P.costs.length
              · have hbn : (((rowAt P.rows j).coefs.length : Int) != (P.costs.length : Int)) = false := by simp [hlen]
                have HLN := Lib.hid hlen
                have hlb : (rowAt P.rows j).coefs.length ≤ 1000000 := by omega
                clear hlen
                cases hb1 : boundB (rowAt P.rows j).least with
                | false =>
                  have HF : Hid (validB P = false) := HBAD.out (by rw [HRB.out, hb1]; simp)
                  have HB1 := Lib.hid hb1; clear hb1
                  go_wp2_with fail
                  refine (limit_any _ _).mono ?_
                  rintro e w1 ⟨rfl, rfl⟩
                  rw [HB1.out]
                  go_wp2_with fail
                  go_ret
                  exact ⟨by rw [HF.out]; rfl, HQQ.out.alloc _⟩
                | true =>
                  have HB1 := Lib.hid hb1; clear hb1
                  cases hb2 : boundB (rowAt P.rows j).most with
                  | false =>
                    have HF : Hid (validB P = false) := HBAD.out (by rw [HRB.out, hb2]; simp)
                    have HB2 := Lib.hid hb2; clear hb2
                    go_wp2_with fail
                    refine (limit_any _ _).mono ?_
                    rintro e w1 ⟨rfl, rfl⟩
                    rw [HB1.out]
                    go_wp2_with fail
                    refine (limit_any _ _).mono ?_
                    rintro e w1 ⟨rfl, rfl⟩
                    rw [HB2.out]
                    go_wp2_with fail
                    go_ret
                    exact ⟨by rw [HF.out]; rfl, HQQ.out.alloc _⟩
                  | true =>
                    have HB2 := Lib.hid hb2; clear hb2
                    go_wp2_with fail
                    refine (limit_any _ _).mono ?_
                    rintro e w1 ⟨rfl, rfl⟩
                    rw [HB1.out]
                    go_wp2_with fail
                    refine (limit_any _ _).mono ?_
                    rintro e w1 ⟨rfl, rfl⟩
                    rw [HB2.out]
                    go_wp2_with fail
                    go_loop [6] (fun i => ∃ u : Nat, u ≤ (rowAt P.rows j).coefs.length ∧ i = .int .i64 u ∧ AllTo coefB (rowAt P.rows j).coefs u) (fun i => (rowAt P.rows j).coefs.length - (intOf i).toNat)
                    case atStart => exact ⟨0, Nat.zero_le _, rfl, AllTo.zero⟩
                    case round =>
                      obtain ⟨u, hu, rfl, hall⟩ := hrel
                      have HAL := Lib.hid hall; clear hall
                      by_cases hul : u < (rowAt P.rows j).coefs.length
                      · obtain ⟨bb, off2, rfl, -, -, hc⟩ := (HI.out (.cells #[.slice A' (rowAt P.rows j).coefs.length c', .int .i64 (rowAt P.rows j).least, .int .i64 (rowAt P.rows j).most] 32)).int_at (by omega)
                        have hck := hc u hul
                        clear hc
                        cases hcb : coefB (nth (rowAt P.rows j).coefs u) with
                        | false =>
                          have HF : Hid (validB P = false) := HBAD.out (by rw [HRB.out, validCoefsB, all_fail hul hcb]; simp)
                          have HCB := Lib.hid hcb; clear hcb
                          go_wp2_with fail
                          refine (coef_any _ _).mono ?_
                          rintro e w1 ⟨rfl, rfl⟩
                          rw [HCB.out]
                          go_wp2_with fail
                          go_ret
                          exact ⟨by rw [HF.out]; rfl, HQQ.out.alloc _⟩
                        | true =>
                          have HT : Hid (AllTo coefB (rowAt P.rows j).coefs (u + 1)) := HAL.out.step hcb
                          have HCB := Lib.hid hcb; clear hcb
                          go_wp2_with fail
                          refine (coef_any _ _).mono ?_
                          rintro e w1 ⟨rfl, rfl⟩
                          rw [HCB.out]
                          go_wp2_with fail
                          go_round
                          case rel => exact ⟨u + 1, by omega, by go_num, HT.out⟩
                          case measure => simp [intOf]; omega
                      · have HN : Hid (AllR (rowB P.costs.length) P.rows (j + 1)) := HALL.out.step (by rw [HRB.out, validCoefsB, HAL.out.full (by omega), HB1.out, HB2.out]; simp [HLN.out])
                        go_wp2_with fail
                        go_roundw
                        case rel => exact ⟨j + 1, by omega, by go_num, HN.out, HCH.out.alloc _⟩
                        case measure => simp [intOf]; omega
              · have hbn : (((rowAt P.rows j).coefs.length : Int) != (P.costs.length : Int)) = true := by simp; omega
                have HF : Hid (validB P = false) := HBAD.out (by rw [HRB.out]; simp [hlen])
                clear hlen
                go_wp2_with fail
                go_ret
                exact ⟨by rw [HF.out]; rfl, HQQ.out.alloc _⟩
            · have HF : Hid (validB P = true) := by
                show validB P = true
                have h60' : P.rows.length ≤ 60 := by omega
                have h12' : P.costs.length ≤ 12 := by omega
                simp only [validB, HC.out, HALL.out.full (by omega : P.rows.length ≤ j), h60', h12', decide_true, Bool.and_self]
              go_wp2_with fail
              go_ret
              exact ⟨by rw [HF.out]; rfl, HQQ.out⟩
end Go.Proofs.Ytipelkbdonfkoaa
