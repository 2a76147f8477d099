/- Layer 8: Span, of the program and of the reference. -/
import Derived.Test.YtipelkbdonfkoaaRead08
namespace Go.Proofs.Ytipelkbdonfkoaa
set_option linter.unusedVariables false
open Go.RowKit

def SpanPost (cs st : List Int) (w : World) (e : Ending) (w' : World) : Prop :=
  e = .returned (.tuple #[.int .i64 (spanF cs st).1, .int .i64 (spanF cs st).2, .bool (spanB cs st)]) ∧ Chg No w w'

set_option maxHeartbeats 1000000 in
theorem span_any {X Y : Nat → Prop} (A SA : Option Addr) (n c sn sc : Nat) (lo hi : Int) (cs st : List Int) (w : World) (h : Ints w X A n c cs) (hs : Ints w Y SA sn sc st) (hm : n ≤ 1000000) (hm' : sn ≤ 1000000) :
    Calls Try.prog 16 #[.agg #[.slice A n c, .int .i64 lo, .int .i64 hi], .slice SA sn sc] w (SpanPost cs st w) := by
  obtain rfl := h.len
  obtain rfl := hs.len
  have ch : ∀ o, Chg No w (w.alloc o) := fun o => (Chg.refl _ w).alloc o
  have HH := Lib.hid (fun o => h.keep _ (ch o)); clear h
  have HS := Lib.hid (fun o => hs.keep _ (ch o)); clear hs
  have HCH := Lib.hid ch; clear ch
  cases h1 : isStateB st cs.length with
  | false =>
    have HP : Hid (spanB cs st = false) := by show spanB cs st = false; simp [spanB, h1]
    have HF : Hid (spanF cs st = (0, 0)) := by show spanF cs st = _; simp [spanF, HP.out]
    have H1 := Lib.hid h1; clear h1
    go_enter Try.func16, Try.ntmps16
    go_wp2_with fail
    refine (isState_any SA _ sc _ st _ (HS.out _) hm' hm).mono ?_
    rintro e w1 ⟨rfl, rfl⟩
    rw [H1.out]
    go_wp2_with fail
    go_ret3
    exact ⟨by rw [HF.out, HP.out]; rfl, HCH.out _⟩
  | true =>
    cases h2 : validCoefsB cs with
    | false =>
      have HP : Hid (spanB cs st = false) := by show spanB cs st = false; simp [spanB, h2]
      have HF : Hid (spanF cs st = (0, 0)) := by show spanF cs st = _; simp [spanF, HP.out]
      have H1 := Lib.hid h1; clear h1
      have H2 := Lib.hid h2; clear h2
      go_enter Try.func16, Try.ntmps16
      go_wp2_with fail
      refine (isState_any SA _ sc _ st _ (HS.out _) hm' hm).mono ?_
      rintro e w1 ⟨rfl, rfl⟩
      rw [H1.out]
      go_wp2_with fail
      refine (validCoefs_any A _ c cs _ (HH.out _) hm).mono ?_
      rintro e w1 ⟨rfl, rfl⟩
      rw [H2.out]
      go_wp2_with fail
      go_ret3
      exact ⟨by rw [HF.out, HP.out]; rfl, HCH.out _⟩
    | true =>
      have HP : Hid (spanB cs st = true) := by show spanB cs st = true; simp [spanB, h1, h2]
      have HF : Hid (spanF cs st = spanTo cs st cs.length) := by show spanF cs st = _; simp [spanF, HP.out]
      have hst := h1
      simp only [isStateB, Bool.and_eq_true, decide_eq_true_eq] at hst
      obtain ⟨⟨hlen, h12⟩, htri⟩ := hst
      have HTR := Lib.hid (AllTo.of_all htri); clear htri
      have HBD := Lib.hid (fun k hk => spanTo_bd (st := st) (cs := cs) k (fun i hi => AllTo.of_all h2 i (by omega)) : ∀ k, k ≤ cs.length → _)
      have H1 := Lib.hid h1; clear h1
      have H2 := Lib.hid h2; clear h2
      have HLEN := Lib.hid hlen
      have hle : cs.length ≤ st.length := by omega
      have hle' : st.length ≤ cs.length := by omega
      clear hlen
      go_enter Try.func16, Try.ntmps16
      go_wp2_with fail
      refine (isState_any SA _ sc _ st _ (HS.out _) hm' hm).mono ?_
      rintro e w1 ⟨rfl, rfl⟩
      rw [H1.out]
      go_wp2_with fail
      refine (validCoefs_any A _ c cs _ (HH.out _) hm).mono ?_
      rintro e w1 ⟨rfl, rfl⟩
      rw [H2.out]
      go_wp2_with fail
      go_loop [4, 5, 24] (fun a b i => ∃ k : Nat, k ≤ cs.length ∧ i = .int .i64 k ∧ a = .int .i64 (spanTo cs st k).1 ∧ b = .int .i64 (spanTo cs st k).2) (fun _ _ i => cs.length - (intOf i).toNat)
      case atStart => exact ⟨0, Nat.zero_le _, rfl, rfl, rfl⟩
      case round =>
        obtain ⟨k, hk, rfl, rfl, rfl⟩ := hrel
        have bd := HBD.out k hk
        by_cases hlt : k < cs.length
        · obtain ⟨b, off, rfl, -, -, hc⟩ := (HH.out (.cells #[.slice A cs.length c, .int .i64 lo, .int .i64 hi] 32)).int_at (by omega)
          have hck := hc k hlt
          obtain ⟨b', off', rfl, -, -, hc'⟩ := (HS.out (.cells #[.slice (some ⟨b, off, none⟩) cs.length c, .int .i64 lo, .int .i64 hi] 32)).int_at (by omega)
          have hck' := hc' k (by omega)
          clear hc hc'
          have htr := triB_iff.1 (HTR.out k (by omega))
          have hcb := coefB_iff.1 (AllTo.of_all H2.out k hlt)
          have HE : Hid (spanTo cs st (k + 1) = if nth st k = 1 then ((spanTo cs st k).1 + nth cs k, (spanTo cs st k).2 + nth cs k) else if nth st k = -1 then ((spanTo cs st k).1 + min (nth cs k) 0, (spanTo cs st k).2 + max (nth cs k) 0) else spanTo cs st k) := rfl
          generalize spanTo cs st k = ab at *
          generalize nth cs k = x at *
          generalize nth st k = y at *
          by_cases hy1 : y = 1
          · have HE1 : Hid (spanTo cs st (k + 1) = (ab.1 + x, ab.2 + x)) := by have := HE.out; rw [if_pos hy1] at this; exact this
            have hb1 : (y == 1) = true := by simp [hy1]
            clear hy1 HE
            go_wp2_with fail
            go_round
            case rel => exact ⟨k + 1, by omega, by go_num, by rw [HE1.out], by rw [HE1.out]⟩
            case measure => simp [intOf]; omega
          · have hb1 : (y == 1) = false := by simp [hy1]
            by_cases hy2 : y = -1
            · have HE1 : Hid (spanTo cs st (k + 1) = (ab.1 + min x 0, ab.2 + max x 0)) := by have := HE.out; rw [if_neg hy1, if_pos hy2] at this; exact this
              have hb2 : (y == -1) = true := by simp [hy2]
              clear hy1 hy2 HE
              go_wp2_with fail
              go_round
              case rel => exact ⟨k + 1, by omega, by go_num, by rw [HE1.out]; exact congrArg _ (by simp only; split <;> omega), by rw [HE1.out]; exact congrArg _ (by simp only; split <;> omega)⟩
              case measure => simp [intOf]; omega
            · have HE1 : Hid (spanTo cs st (k + 1) = ab) := by have := HE.out; rw [if_neg hy1, if_neg hy2] at this; exact this
              have hb2 : (y == -1) = false := by simp [hy2]
              clear hy1 hy2 HE
              go_wp2_with fail
              go_round
              case rel => exact ⟨k + 1, by omega, by go_num, by rw [HE1.out], by rw [HE1.out]⟩
              case measure => simp [intOf]; omega
        · obtain rfl : k = cs.length := by omega
          go_wp2_with fail
          go_ret3
          exact ⟨by rw [HF.out, HP.out]; rfl, HCH.out _⟩

set_option maxHeartbeats 1000000 in
theorem spanR_any {X Y : Nat → Prop} (A SA : Option Addr) (n c sn sc : Nat) (lo hi : Int) (cs st : List Int) (w : World) (h : Ints w X A n c cs) (hs : Ints w Y SA sn sc st) (hm : n ≤ 1000000) (hm' : sn ≤ 1000000) :
    Calls Try.prog 17 #[.agg #[.slice A n c, .int .i64 lo, .int .i64 hi], .slice SA sn sc] w (SpanPost cs st w) := by
  obtain rfl := h.len
  obtain rfl := hs.len
  have ch : ∀ o, Chg No w (w.alloc o) := fun o => (Chg.refl _ w).alloc o
  have HH := Lib.hid (fun o => h.keep _ (ch o)); clear h
  have HS := Lib.hid (fun o => hs.keep _ (ch o)); clear hs
  have HCH := Lib.hid ch; clear ch
  by_cases h12 : 12 < cs.length
  · have HP : Hid (spanB cs st = false) := by show spanB cs st = false; simp [spanB, isState_big h12]
    have HF : Hid (spanF cs st = (0, 0)) := by show spanF cs st = _; simp [spanF, HP.out]
    go_enter Try.func17, Try.ntmps17
    go_wp2_with fail
    go_ret3
    exact ⟨by rw [HF.out, HP.out]; rfl, HCH.out _⟩
  · have hd12 : decide (12 < cs.length) = false := by simpa using h12
    cases h1 : stateB st cs.length with
    | false =>
      have HP : Hid (spanB cs st = false) := by
        show spanB cs st = false
        simp only [stateB, Bool.and_eq_false_iff] at h1
        rcases h1 with h1 | h1 <;> simp [spanB, isStateB, h1]
      have HF : Hid (spanF cs st = (0, 0)) := by show spanF cs st = _; simp [spanF, HP.out]
      have H1 := Lib.hid h1; clear h1
      go_enter Try.func17, Try.ntmps17
      go_wp2_with fail
      refine (stateR_any SA _ sc _ st _ (HS.out _) hm' hm).mono ?_
      rintro e w1 ⟨rfl, rfl⟩
      rw [H1.out]
      go_wp2_with fail
      go_ret3
      exact ⟨by rw [HF.out, HP.out]; rfl, HCH.out _⟩
    | true =>
      have hst := h1
      simp only [stateB, Bool.and_eq_true, decide_eq_true_eq] at hst
      obtain ⟨hlen, htri⟩ := hst
      have HIS : Hid (isStateB st cs.length = true) := by show isStateB st cs.length = true; simp [isStateB, hlen, htri]; omega
      have HTR := Lib.hid (AllTo.of_all htri); clear htri
      have H1 := Lib.hid h1; clear h1
      have hle : cs.length ≤ st.length := by omega
      have hle' : st.length ≤ cs.length := by omega
      clear hlen
      go_enter Try.func17, Try.ntmps17
      go_wp2_with fail
      refine (stateR_any SA _ sc _ st _ (HS.out _) hm' hm).mono ?_
      rintro e w1 ⟨rfl, rfl⟩
      rw [H1.out]
      go_wp2_with fail
      go_loop [7, 8, 9] (fun a b i => ∃ k : Nat, k ≤ cs.length ∧ i = .int .i64 k ∧ AllTo coefB cs k ∧ a = .int .i64 (spanTo cs st k).1 ∧ b = .int .i64 (spanTo cs st k).2) (fun _ _ i => cs.length - (intOf i).toNat)
      case atStart => exact ⟨0, Nat.zero_le _, rfl, AllTo.zero, rfl, rfl⟩
      case round =>
        obtain ⟨k, hk, rfl, hall, rfl, rfl⟩ := hrel
        have bd := spanTo_bd (st := st) k hall
        have HALL := Lib.hid hall; clear hall
        by_cases hlt : k < cs.length
        · obtain ⟨b, off, rfl, -, -, hc⟩ := (HH.out (.cells #[.slice A cs.length c, .int .i64 lo, .int .i64 hi] 32)).int_at (by omega)
          have hck := hc k hlt
          obtain ⟨b', off', rfl, -, -, hc'⟩ := (HS.out (.cells #[.slice (some ⟨b, off, none⟩) cs.length c, .int .i64 lo, .int .i64 hi] 32)).int_at (by omega)
          have hck' := hc' k (by omega)
          clear hc hc'
          have htr := triB_iff.1 (HTR.out k (by omega))
          cases hcb : coefB (nth cs k) with
          | false =>
            have HP : Hid (spanB cs st = false) := by show spanB cs st = false; simp [spanB, validCoefsB, all_fail hlt hcb]
            have HF : Hid (spanF cs st = (0, 0)) := by show spanF cs st = _; simp [spanF, HP.out]
            have HCB := Lib.hid hcb; clear hcb
            go_wp2_with fail
            refine (coef_any _ _).mono ?_
            rintro e w1 ⟨rfl, rfl⟩
            rw [HCB.out]
            go_wp2_with fail
            go_ret3
            exact ⟨by rw [HF.out, HP.out]; rfl, HCH.out _⟩
          | true =>
            have HN : Hid (AllTo coefB cs (k + 1)) := HALL.out.step hcb
            have HE : Hid (spanTo cs st (k + 1) = if nth st k = 1 then ((spanTo cs st k).1 + nth cs k, (spanTo cs st k).2 + nth cs k) else if nth st k = -1 then ((spanTo cs st k).1 + min (nth cs k) 0, (spanTo cs st k).2 + max (nth cs k) 0) else spanTo cs st k) := rfl
            have hcbd := coefB_iff.1 hcb
            have HCB := Lib.hid hcb; clear hcb
            generalize spanTo cs st k = ab at *
            generalize nth cs k = x at *
            generalize nth st k = y at *
            go_wp2_with fail
            refine (coef_any _ _).mono ?_
            rintro e w1 ⟨rfl, rfl⟩
            rw [HCB.out]
            by_cases hy1 : y = 1
            · have HE1 : Hid (spanTo cs st (k + 1) = (ab.1 + x, ab.2 + x)) := by have := HE.out; rw [if_pos hy1] at this; exact this
              have hb1 : (y == 1) = true := by simp [hy1]
              have hb2 : (y == -1) = false := by simp [hy1]
              clear hy1 HE
              go_wp2_with fail
              go_round
              case rel => exact ⟨k + 1, by omega, by go_num, HN.out, by rw [HE1.out], by rw [HE1.out]⟩
              case measure => simp [intOf]; omega
            · have hb1 : (y == 1) = false := by simp [hy1]
              by_cases hy2 : y = -1
              · have HE1 : Hid (spanTo cs st (k + 1) = (ab.1 + min x 0, ab.2 + max x 0)) := by have := HE.out; rw [if_neg hy1, if_pos hy2] at this; exact this
                have hb2 : (y == -1) = true := by simp [hy2]
                clear hy1 hy2 HE
                go_wp2_with fail
                go_round
                case rel => exact ⟨k + 1, by omega, by go_num, HN.out, by rw [HE1.out]; exact congrArg _ (by simp only; split <;> omega), by rw [HE1.out]; exact congrArg _ (by simp only; split <;> omega)⟩
                case measure => simp [intOf]; omega
              · have HE1 : Hid (spanTo cs st (k + 1) = ab) := by have := HE.out; rw [if_neg hy1, if_neg hy2] at this; exact this
                have hb2 : (y == -1) = false := by simp [hy2]
                clear hy1 hy2 HE
                go_wp2_with fail
                go_round
                case rel => exact ⟨k + 1, by omega, by go_num, HN.out, by rw [HE1.out], by rw [HE1.out]⟩
                case measure => simp [intOf]; omega
        · obtain rfl : k = cs.length := by omega
          have HP : Hid (spanB cs st = true) := by show spanB cs st = true; simp [spanB, HIS.out, validCoefsB]; exact fun x hx => by obtain ⟨i, hi, rfl⟩ := mem_nth hx; exact HALL.out i hi
          have HF : Hid (spanF cs st = spanTo cs st cs.length) := by show spanF cs st = _; simp [spanF, HP.out]
          go_wp2_with fail
          go_ret3
          exact ⟨by rw [HF.out, HP.out]; rfl, HCH.out _⟩
end Go.Proofs.Ytipelkbdonfkoaa
