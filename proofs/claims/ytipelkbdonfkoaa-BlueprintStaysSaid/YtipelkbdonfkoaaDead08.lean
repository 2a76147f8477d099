/- Layer 8: Dead, of the program and of the reference. (Printed by wip/mkdead.py.) -/
import Derived.Test.YtipelkbdonfkoaaMeets08
import Derived.Test.YtipelkbdonfkoaaSpan08
namespace Go.Proofs.Ytipelkbdonfkoaa
set_option linter.unusedVariables false
open Go.RowKit

theorem firstFrom_at {st : List Int} : ∀ (rows : List Row) (k j : Nat), j < rows.length → (∀ i, i < j → blockedB st (rowAt rows i) = false) → blockedB st (rowAt rows j) = true → firstFrom st k rows = ((k + j : Nat) : Int)
  | [], _, _, h, _, _ => absurd h (by simp)
  | r :: rs, k, 0, _, _, hb => by
    have : blockedB st r = true := hb
    simp [firstFrom, this]
  | r :: rs, k, j + 1, hl, hn, hb => by
    have h0 : blockedB st r = false := hn 0 (by omega)
    have ih := firstFrom_at rs (k + 1) j (by simpa using hl) (fun i hi => hn (i + 1) (by omega)) hb
    rw [firstFrom, h0, if_neg (by simp), ih]
    congr 1
    omega
theorem firstFrom_none {st : List Int} : ∀ (rows : List Row) (k : Nat), (∀ i, i < rows.length → blockedB st (rowAt rows i) = false) → firstFrom st k rows = -1
  | [], _, _ => rfl
  | r :: rs, k, hn => by
    have h0 : blockedB st r = false := hn 0 (by simp)
    rw [firstFrom, h0, if_neg (by simp)]
    exact firstFrom_none rs (k + 1) fun i hi => hn (i + 1) (by simpa using hi)
def freeB (st : List Int) (r : Row) : Bool := !blockedB st r
theorem AllR.free {st : List Int} {rows : List Row} {k : Nat} (h : AllR (freeB st) rows k) : ∀ i, i < k → blockedB st (rowAt rows i) = false := fun i hi => by
  have := h i hi
  simpa [freeB] using this
def IntPost (x : Int) (w : World) (e : Ending) (w' : World) : Prop := e = .returned (.int .i64 x) ∧ Chg No w w'
theorem state_eq {P : Prog} {st : List Int} (h : validB P = true) : stateB st P.costs.length = isStateB st P.costs.length := by
  have := (validB_parts h).1
  simp [stateB, isStateB, this]
theorem spanB_of {P : Prog} {st : List Int} {j : Nat} (h : validB P = true) (hs : isStateB st P.costs.length = true) (hj : j < P.rows.length) : spanB (rowAt P.rows j).coefs st = true := by
  obtain ⟨h1, h2, -, -⟩ := rowB_parts (AllR.of_all (validB_parts h).2.2.2 j hj)
  rw [spanB, h1, hs, h2]
  rfl
theorem span_bd {cs st : List Int} : -(10000 * 12) ≤ (spanF cs st).1 ∧ (spanF cs st).1 ≤ 10000 * 12 ∧ -(10000 * 12) ≤ (spanF cs st).2 ∧ (spanF cs st).2 ≤ 10000 * 12 := by
  unfold spanF
  split
  · next h =>
    simp only [spanB, isStateB, Bool.and_eq_true, decide_eq_true_eq] at h
    have := spanTo_bd (st := st) cs.length (AllTo.of_all (show cs.all coefB = true from h.2))
    omega
  · simp

set_option maxHeartbeats 2000000 in
theorem blockedR_any {X Y : Nat → Prop} (A SA : Option Addr) (n c sn sc : Nat) (r : Row) (st : List Int) (w : World) (h : Ints w X A n c r.coefs) (hs : Ints w Y SA sn sc st) (hm : n ≤ 1000000) (hm' : sn ≤ 1000000) :
    Calls Try.prog 50 #[.agg #[.slice A n c, .int .i64 r.least, .int .i64 r.most], .slice SA sn sc] w (BoolPost (blockedB st r) w) := by
  have g1 := Blk.made w 32 #[.slice A n c, .int .i64 r.least, .int .i64 r.most]
  have hw0 : Chg No w (w.alloc (.cells #[.slice A n c, .int .i64 r.least, .int .i64 r.most] 32)) := (Chg.refl _ w).alloc _
  have HH := Lib.hid (h.keep _ hw0); clear h
  have HS := Lib.hid (hs.keep _ hw0); clear hs
  have HG := Lib.hid g1; clear g1
  have HW := Lib.hid hw0; clear hw0
  have HBL : Hid (blockedB st r = (spanB r.coefs st && (decide (r.most < (spanF r.coefs st).1) || decide ((spanF r.coefs st).2 < r.least) || decide (r.most < r.least)))) := rfl
  go_enter Try.func50, Try.ntmps50
  go_wp2_with fail
  refine (spanR_any A SA n c sn sc _ _ r.coefs st _ HH.out HS.out hm hm').mono ?_
  rintro e w1 ⟨rfl, hc1⟩
  have g1 := HG.out.chg hc1 no_
  have k1 : w1.cell? ⟨w.heap.size, 1, none⟩ = some (.int .i64 r.least) := by rw [g1.cell]; rfl
  have k2 : w1.cell? ⟨w.heap.size, 2, none⟩ = some (.int .i64 r.most) := by rw [g1.cell]; rfl
  have HC1 := Lib.hid (HW.out.trans hc1)
  clear hc1 g1
  generalize (spanF r.coefs st).1 = lo at *
  generalize (spanF r.coefs st).2 = hi at *
  generalize spanB r.coefs st = ok at *
  cases ok with
  | false =>
    have HF : Hid (blockedB st r = false) := by show blockedB st r = false; rw [HBL.out]; simp [*]
    go_wp2_with fail
    go_ret
    exact ⟨by rw [HF.out]; rfl, HC1.out⟩
  | true =>
    by_cases t1 : r.most < lo
    · have t1d : decide (r.most < lo) = true := by simpa using t1
      have HF : Hid (blockedB st r = true) := by show blockedB st r = true; rw [HBL.out]; simp [*]
      go_wp2_with fail
      go_ret
      exact ⟨by rw [HF.out]; rfl, HC1.out⟩
    · have t1d : decide (r.most < lo) = false := by simpa using t1
      by_cases t2 : hi < r.least
      · have t2d : decide (hi < r.least) = true := by simpa using t2
        have HF : Hid (blockedB st r = true) := by show blockedB st r = true; rw [HBL.out]; simp [*]
        go_wp2_with fail
        go_ret
        exact ⟨by rw [HF.out]; rfl, HC1.out⟩
      · have t2d : decide (hi < r.least) = false := by simpa using t2
        by_cases t3 : r.most < r.least
        · have t3d : decide (r.most < r.least) = true := by simpa using t3
          have HF : Hid (blockedB st r = true) := by show blockedB st r = true; rw [HBL.out]; simp [*]
          go_wp2_with fail
          go_ret
          exact ⟨by rw [HF.out]; rfl, HC1.out⟩
        · have t3d : decide (r.most < r.least) = false := by simpa using t3
          have HF : Hid (blockedB st r = false) := by show blockedB st r = false; rw [HBL.out]; simp [*]
          go_wp2_with fail
          go_ret
          exact ⟨by rw [HF.out]; rfl, HC1.out⟩

set_option maxHeartbeats 2000000 in
theorem dead_any {X Y : Nat → Prop} (A R B : Option Addr) (n c m d bn bd : Nat) (P : Prog) (st : List Int) (w : World) (h : ProgAt w X A n c R m d P) (hs : Ints w Y B bn bd st) (hn : n ≤ 1000000) (hm : m ≤ 1000000) (hbn : bn ≤ 1000000) :
    Calls Try.prog 20 #[.agg #[.slice A n c, .slice R m d], .slice B bn bd] w (IntPost (deadF P st) w) := by
  obtain rfl := h.costs.len
  obtain rfl := h.rows.len
  obtain rfl := hs.len
  have g1 := Blk.made w 27 #[.slice A P.costs.length c, .slice R P.rows.length d]
  have hw0 : Chg No w (w.alloc (.cells #[.slice A P.costs.length c, .slice R P.rows.length d] 27)) := (Chg.refl _ w).alloc _
  have HH := Lib.hid (h.keep hw0); clear h
  have HS := Lib.hid (hs.keep _ hw0); clear hs
  have HG := Lib.hid g1; clear g1
  have HW := Lib.hid hw0; clear hw0
  cases hv : validB P with
  | false =>
    have HF : Hid (deadF P st = -1) := by show deadF P st = -1; simp [deadF, deadB, hv]
    have HV := Lib.hid hv; clear hv
    go_enter Try.func20, Try.ntmps20
    go_wp2_with fail
    refine (valid_any A R _ c _ d P _ HH.out hn hm).mono ?_
    rintro e w1 ⟨rfl, hc1⟩
    rw [HV.out]
    have g1 := HG.out.chg hc1 no_
    have k0 : w1.cell? ⟨w.heap.size, 0, none⟩ = some (.slice A P.costs.length c) := by rw [g1.cell]; rfl
    have k1 : w1.cell? ⟨w.heap.size, 1, none⟩ = some (.slice R P.rows.length d) := by rw [g1.cell]; rfl
    have HH1 := Lib.hid (HH.out.keep hc1)
    have HS1 := Lib.hid (HS.out.keep _ hc1)
    have HG1 := Lib.hid g1
    have HC1 := Lib.hid (HW.out.trans hc1)
    clear hc1 g1
    go_wp2_with fail
    go_ret
    exact ⟨by rw [HF.out]; rfl, HC1.out⟩
  | true =>
    have HV := Lib.hid hv; clear hv
    cases hst : isStateB st P.costs.length with
    | false =>
      have HF : Hid (deadF P st = -1) := by show deadF P st = -1; simp [deadF, deadB, hst]
      have HST := Lib.hid hst; clear hst
      go_enter Try.func20, Try.ntmps20
      go_wp2_with fail
      refine (valid_any A R _ c _ d P _ HH.out hn hm).mono ?_
      rintro e w1 ⟨rfl, hc1⟩
      rw [HV.out]
      have g1 := HG.out.chg hc1 no_
      have k0 : w1.cell? ⟨w.heap.size, 0, none⟩ = some (.slice A P.costs.length c) := by rw [g1.cell]; rfl
      have k1 : w1.cell? ⟨w.heap.size, 1, none⟩ = some (.slice R P.rows.length d) := by rw [g1.cell]; rfl
      have HH1 := Lib.hid (HH.out.keep hc1)
      have HS1 := Lib.hid (HS.out.keep _ hc1)
      have HG1 := Lib.hid g1
      have HC1 := Lib.hid (HW.out.trans hc1)
      clear hc1 g1
      go_wp2_with fail
      refine (isState_any B _ bd _ st _ HS1.out hbn hn).mono ?_
      rintro e w2 ⟨rfl, rfl⟩
      rw [HST.out]
      go_wp2_with fail
      go_ret
      exact ⟨by rw [HF.out]; rfl, HC1.out⟩
    | true =>
      have HD : Hid (deadB P st = true) := by show deadB P st = true; simp [deadB, HV.out, hst]
      have HST := Lib.hid hst; clear hst
      obtain ⟨-, hv2, -, hv4⟩ := validB_parts HV.out
      have HRW : Hid (∀ j, j < P.rows.length → (rowAt P.rows j).coefs.length = P.costs.length) := fun j hj => (row_in hv4 hj).1
      clear hv4
      go_enter Try.func20, Try.ntmps20
      go_wp2_with fail
      refine (valid_any A R _ c _ d P _ HH.out hn hm).mono ?_
      rintro e w1 ⟨rfl, hc1⟩
      rw [HV.out]
      have g1 := HG.out.chg hc1 no_
      have k0 : w1.cell? ⟨w.heap.size, 0, none⟩ = some (.slice A P.costs.length c) := by rw [g1.cell]; rfl
      have k1 : w1.cell? ⟨w.heap.size, 1, none⟩ = some (.slice R P.rows.length d) := by rw [g1.cell]; rfl
      have HH1 := Lib.hid (HH.out.keep hc1)
      have HS1 := Lib.hid (HS.out.keep _ hc1)
      have HG1 := Lib.hid g1
      have HC1 := Lib.hid (HW.out.trans hc1)
      clear hc1 g1
      go_wp2_with fail
      refine (isState_any B _ bd _ st _ HS1.out hbn hn).mono ?_
      rintro e w2 ⟨rfl, rfl⟩
      rw [HST.out]
      go_wp2_with fail
      go_loopw [24] (fun i wr => ∃ j : Nat, j ≤ P.rows.length ∧ i = .int .i64 j ∧ AllR (freeB st) P.rows j ∧ Chg No w1 wr) (fun i _ => P.rows.length - (intOf i).toNat)
      case atStart => exact ⟨0, Nat.zero_le _, rfl, AllR.zero, Chg.refl _ _⟩
      case round =>
        clear k0 k1
        obtain ⟨j, hj, rfl, hall, hch⟩ := hrel
        have HALL := Lib.hid hall; clear hall
        have g2 := HG1.out.chg hch no_
        have k0 : wr.cell? ⟨w.heap.size, 0, none⟩ = some (.slice A P.costs.length c) := by rw [g2.cell]; rfl
        have k1 : wr.cell? ⟨w.heap.size, 1, none⟩ = some (.slice R P.rows.length d) := by rw [g2.cell]; rfl
        have hsz := g2.lt
        clear g2
        have HP := Lib.hid (HH1.out.keep hch)
        have HSR := Lib.hid (HS1.out.keep _ hch)
        have HQ := Lib.hid (HC1.out.trans hch)
        have HCH := Lib.hid hch; clear hch
        by_cases hlt : j < P.rows.length
        · obtain ⟨b, off, rfl, hb, -, hc⟩ := HP.out.rows.row_at (by omega)
          obtain ⟨A', n', c', r0, r1, r2, hI⟩ := hc j hlt
          have hn' : n' = P.costs.length := hI.len.symm.trans (HRW.out j hlt)
          subst hn'
          clear hc
          have HI := Lib.hid hI; clear hI
          have HOK : Hid (spanB (rowAt P.rows j).coefs st = true) := spanB_of HV.out HST.out hlt
          have HBL : Hid (blockedB st (rowAt P.rows j) = (decide ((rowAt P.rows j).most < (spanF (rowAt P.rows j).coefs st).1) || decide ((spanF (rowAt P.rows j).coefs st).2 < (rowAt P.rows j).least) || decide ((rowAt P.rows j).most < (rowAt P.rows j).least))) := by
            show blockedB st (rowAt P.rows j) = _
            rw [blockedB, HOK.out, Bool.true_and]
          go_wp2_with fail
          refine (span_any _ B _ _ _ bd _ _ _ st _ (HI.out.keep _ ((Chg.refl No wr).alloc _)) (HSR.out.keep _ ((Chg.refl No wr).alloc _)) hn hbn).mono ?_
          rintro e w3 ⟨rfl, hc3⟩
          rw [HOK.out]
          have g3 := (Blk.made wr 32 #[.slice A' P.costs.length c', .int .i64 (rowAt P.rows j).least, .int .i64 (rowAt P.rows j).most]).chg hc3 no_
          have q1 : w3.cell? ⟨wr.heap.size, 1, none⟩ = some (.int .i64 (rowAt P.rows j).least) := by rw [g3.cell]; rfl
          have q2 : w3.cell? ⟨wr.heap.size, 2, none⟩ = some (.int .i64 (rowAt P.rows j).most) := by rw [g3.cell]; rfl
          have HQ3 := Lib.hid ((HQ.out.alloc _).trans hc3)
          have HCH3 := Lib.hid ((HCH.out.alloc _).trans hc3)
          clear hc3 g3
          generalize (spanF (rowAt P.rows j).coefs st).1 = lo at *
          generalize (spanF (rowAt P.rows j).coefs st).2 = hi at *
          by_cases t1 : (rowAt P.rows j).most < lo
          · have t1d : decide ((rowAt P.rows j).most < lo) = true := by simpa using t1
            have HF : Hid (deadF P st = ((0 + j : Nat) : Int)) := by show deadF P st = _; rw [deadF, HD.out, if_pos rfl]; exact firstFrom_at P.rows 0 j hlt HALL.out.free (by rw [HBL.out]; simp [*])
            go_wp2_with fail
            go_ret
            exact ⟨by rw [HF.out, Nat.zero_add]; rfl, HQ3.out⟩
          · have t1d : decide ((rowAt P.rows j).most < lo) = false := by simpa using t1
            by_cases t2 : hi < (rowAt P.rows j).least
            · have t2d : decide (hi < (rowAt P.rows j).least) = true := by simpa using t2
              have HF : Hid (deadF P st = ((0 + j : Nat) : Int)) := by show deadF P st = _; rw [deadF, HD.out, if_pos rfl]; exact firstFrom_at P.rows 0 j hlt HALL.out.free (by rw [HBL.out]; simp [*])
              go_wp2_with fail
              go_ret
              exact ⟨by rw [HF.out, Nat.zero_add]; rfl, HQ3.out⟩
            · have t2d : decide (hi < (rowAt P.rows j).least) = false := by simpa using t2
              by_cases t3 : (rowAt P.rows j).most < (rowAt P.rows j).least
              · have t3d : decide ((rowAt P.rows j).most < (rowAt P.rows j).least) = true := by simpa using t3
                have HF : Hid (deadF P st = ((0 + j : Nat) : Int)) := by show deadF P st = _; rw [deadF, HD.out, if_pos rfl]; exact firstFrom_at P.rows 0 j hlt HALL.out.free (by rw [HBL.out]; simp [*])
                go_wp2_with fail
                go_ret
                exact ⟨by rw [HF.out, Nat.zero_add]; rfl, HQ3.out⟩
              · have t3d : decide ((rowAt P.rows j).most < (rowAt P.rows j).least) = false := by simpa using t3
                have HT : Hid (AllR (freeB st) P.rows (j + 1)) := HALL.out.step (by rw [freeB, HBL.out]; simp [*])
                go_wp2_with fail
                go_roundw
                case rel => exact ⟨j + 1, by omega, by go_num, HT.out, HCH3.out⟩
                case measure => simp [intOf]; omega
        · have HF : Hid (deadF P st = -1) := by
            show deadF P st = -1
            rw [deadF, HD.out, if_pos rfl]
            exact firstFrom_none P.rows 0 fun i hi => HALL.out.free i (by omega)
          go_wp2_with fail
          go_ret
          exact ⟨by rw [HF.out]; rfl, HQ.out⟩

set_option maxHeartbeats 2000000 in
theorem deadR_any {X Y : Nat → Prop} (A R B : Option Addr) (n c m d bn bd : Nat) (P : Prog) (st : List Int) (w : World) (h : ProgAt w X A n c R m d P) (hs : Ints w Y B bn bd st) (hn : n ≤ 1000000) (hm : m ≤ 1000000) (hbn : bn ≤ 1000000) :
    Calls Try.prog 21 #[.agg #[.slice A n c, .slice R m d], .slice B bn bd] w (IntPost (deadF P st) w) := by
  obtain rfl := h.costs.len
  obtain rfl := h.rows.len
  obtain rfl := hs.len
  have g1 := Blk.made w 27 #[.slice A P.costs.length c, .slice R P.rows.length d]
  have hw0 : Chg No w (w.alloc (.cells #[.slice A P.costs.length c, .slice R P.rows.length d] 27)) := (Chg.refl _ w).alloc _
  have HH := Lib.hid (h.keep hw0); clear h
  have HS := Lib.hid (hs.keep _ hw0); clear hs
  have HG := Lib.hid g1; clear g1
  have HW := Lib.hid hw0; clear hw0
  cases hv : validB P with
  | false =>
    have HF : Hid (deadF P st = -1) := by show deadF P st = -1; simp [deadF, deadB, hv]
    have HV := Lib.hid hv; clear hv
    go_enter Try.func21, Try.ntmps21
    go_wp2_with fail
    refine (validR_any A R _ c _ d P _ HH.out hn hm).mono ?_
    rintro e w1 ⟨rfl, hc1⟩
    rw [HV.out]
    have g1 := HG.out.chg hc1 no_
    have k0 : w1.cell? ⟨w.heap.size, 0, none⟩ = some (.slice A P.costs.length c) := by rw [g1.cell]; rfl
    have k1 : w1.cell? ⟨w.heap.size, 1, none⟩ = some (.slice R P.rows.length d) := by rw [g1.cell]; rfl
    have HH1 := Lib.hid (HH.out.keep hc1)
    have HS1 := Lib.hid (HS.out.keep _ hc1)
    have HG1 := Lib.hid g1
    have HC1 := Lib.hid (HW.out.trans hc1)
    clear hc1 g1
    go_wp2_with fail
    go_ret
    exact ⟨by rw [HF.out]; rfl, HC1.out⟩
  | true =>
    have HV := Lib.hid hv; clear hv
    cases hst : isStateB st P.costs.length with
    | false =>
      have HF : Hid (deadF P st = -1) := by show deadF P st = -1; simp [deadF, deadB, hst]
      have HST := Lib.hid hst; clear hst
      go_enter Try.func21, Try.ntmps21
      go_wp2_with fail
      refine (validR_any A R _ c _ d P _ HH.out hn hm).mono ?_
      rintro e w1 ⟨rfl, hc1⟩
      rw [HV.out]
      have g1 := HG.out.chg hc1 no_
      have k0 : w1.cell? ⟨w.heap.size, 0, none⟩ = some (.slice A P.costs.length c) := by rw [g1.cell]; rfl
      have k1 : w1.cell? ⟨w.heap.size, 1, none⟩ = some (.slice R P.rows.length d) := by rw [g1.cell]; rfl
      have HH1 := Lib.hid (HH.out.keep hc1)
      have HS1 := Lib.hid (HS.out.keep _ hc1)
      have HG1 := Lib.hid g1
      have HC1 := Lib.hid (HW.out.trans hc1)
      clear hc1 g1
      go_wp2_with fail
      refine (stateR_any B _ bd _ st _ HS1.out hbn hn).mono ?_
      rintro e w2 ⟨rfl, rfl⟩
      rw [state_eq HV.out, HST.out]
      go_wp2_with fail
      go_ret
      exact ⟨by rw [HF.out]; rfl, HC1.out⟩
    | true =>
      have HD : Hid (deadB P st = true) := by show deadB P st = true; simp [deadB, HV.out, hst]
      have HST := Lib.hid hst; clear hst
      obtain ⟨-, hv2, -, hv4⟩ := validB_parts HV.out
      have HRW : Hid (∀ j, j < P.rows.length → (rowAt P.rows j).coefs.length = P.costs.length) := fun j hj => (row_in hv4 hj).1
      clear hv4
      go_enter Try.func21, Try.ntmps21
      go_wp2_with fail
      refine (validR_any A R _ c _ d P _ HH.out hn hm).mono ?_
      rintro e w1 ⟨rfl, hc1⟩
      rw [HV.out]
      have g1 := HG.out.chg hc1 no_
      have k0 : w1.cell? ⟨w.heap.size, 0, none⟩ = some (.slice A P.costs.length c) := by rw [g1.cell]; rfl
      have k1 : w1.cell? ⟨w.heap.size, 1, none⟩ = some (.slice R P.rows.length d) := by rw [g1.cell]; rfl
      have HH1 := Lib.hid (HH.out.keep hc1)
      have HS1 := Lib.hid (HS.out.keep _ hc1)
      have HG1 := Lib.hid g1
      have HC1 := Lib.hid (HW.out.trans hc1)
      clear hc1 g1
      go_wp2_with fail
      refine (stateR_any B _ bd _ st _ HS1.out hbn hn).mono ?_
      rintro e w2 ⟨rfl, rfl⟩
      rw [state_eq HV.out, HST.out]
      go_wp2_with fail
      go_loopw [5] (fun i wr => ∃ j : Nat, j ≤ P.rows.length ∧ i = .int .i64 j ∧ AllR (freeB st) P.rows j ∧ Chg No w1 wr) (fun i _ => P.rows.length - (intOf i).toNat)
      case atStart => exact ⟨0, Nat.zero_le _, rfl, AllR.zero, Chg.refl _ _⟩
      case round =>
        clear k0 k1
        obtain ⟨j, hj, rfl, hall, hch⟩ := hrel
        have HALL := Lib.hid hall; clear hall
        have g2 := HG1.out.chg hch no_
        have k0 : wr.cell? ⟨w.heap.size, 0, none⟩ = some (.slice A P.costs.length c) := by rw [g2.cell]; rfl
        have k1 : wr.cell? ⟨w.heap.size, 1, none⟩ = some (.slice R P.rows.length d) := by rw [g2.cell]; rfl
        have hsz := g2.lt
        clear g2
        have HP := Lib.hid (HH1.out.keep hch)
        have HSR := Lib.hid (HS1.out.keep _ hch)
        have HQ := Lib.hid (HC1.out.trans hch)
        have HCH := Lib.hid hch; clear hch
        by_cases hlt : j < P.rows.length
        · obtain ⟨b, off, rfl, hb, -, hc⟩ := HP.out.rows.row_at (by omega)
          obtain ⟨A', n', c', r0, r1, r2, hI⟩ := hc j hlt
          have hn' : n' = P.costs.length := hI.len.symm.trans (HRW.out j hlt)
          subst hn'
          clear hc
          have HI := Lib.hid hI; clear hI
          have HOK : Hid (spanB (rowAt P.rows j).coefs st = true) := spanB_of HV.out HST.out hlt
          have HBL : Hid (blockedB st (rowAt P.rows j) = (decide ((rowAt P.rows j).most < (spanF (rowAt P.rows j).coefs st).1) || decide ((spanF (rowAt P.rows j).coefs st).2 < (rowAt P.rows j).least) || decide ((rowAt P.rows j).most < (rowAt P.rows j).least))) := by
            show blockedB st (rowAt P.rows j) = _
            rw [blockedB, HOK.out, Bool.true_and]
          go_wp2_with fail
          refine (blockedR_any _ B _ _ _ bd (rowAt P.rows j) st _ HI.out HSR.out hn hbn).mono ?_
          rintro e w3 ⟨rfl, hc3⟩
          have HQ3 := Lib.hid (HQ.out.trans hc3)
          have HCH3 := Lib.hid (HCH.out.trans hc3)
          clear hc3
          cases hbl : blockedB st (rowAt P.rows j) with
          | true =>
            have HF : Hid (deadF P st = ((0 + j : Nat) : Int)) := by show deadF P st = _; rw [deadF, HD.out, if_pos rfl]; exact firstFrom_at P.rows 0 j hlt HALL.out.free hbl
            clear hbl
            go_wp2_with fail
            go_ret
            exact ⟨by rw [HF.out, Nat.zero_add]; rfl, HQ3.out⟩
          | false =>
            have HT : Hid (AllR (freeB st) P.rows (j + 1)) := HALL.out.step (by rw [freeB, hbl]; rfl)
            clear hbl
            go_wp2_with fail
            go_roundw
            case rel => exact ⟨j + 1, by omega, by go_num, HT.out, HCH3.out⟩
            case measure => simp [intOf]; omega
        · have HF : Hid (deadF P st = -1) := by
            show deadF P st = -1
            rw [deadF, HD.out, if_pos rfl]
            exact firstFrom_none P.rows 0 fun i hi => HALL.out.free i (by omega)
          go_wp2_with fail
          go_ret
          exact ⟨by rw [HF.out]; rfl, HQ.out⟩
end Go.Proofs.Ytipelkbdonfkoaa
