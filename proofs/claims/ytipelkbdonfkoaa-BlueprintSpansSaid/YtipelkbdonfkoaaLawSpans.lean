/- The law BlueprintSpans: it returns true. -/
import Derived.Test.YtipelkbdonfkoaaAwake08
import Derived.Test.YtipelkbdonfkoaaGen
import Derived.Test.YtipelkbdonfkoaaLawDead
namespace Go.Proofs.Ytipelkbdonfkoaa
open Go.RowKit

set_option maxRecDepth 100000 in
set_option maxHeartbeats 4000000 in
theorem law_spans (A CA SA : Option Addr) (n c cn cc sn sc : Nat) (xs coefs state : List Int) (w : World) (h : Ints w No A n c xs) (hcoef : Ints w No CA cn cc coefs) (hstate : Ints w No SA sn sc state) (hm : c ≤ maxLen) (hcm : cc ≤ maxLen) (hsm : sc ≤ maxLen) :
    Calls Try.prog 3 #[.slice A n c, .slice CA cn cc, .slice SA sn sc] w (BoolPost true w) := by
  obtain rfl := hcoef.len
  obtain rfl := hstate.len
  have l1 := hcoef.cap
  have l2 := hstate.cap
  unfold maxLen at hcm hsm
  have HH := Lib.hid h; clear h
  have HCOEF := Lib.hid hcoef; clear hcoef
  have HSTATE := Lib.hid hstate; clear hstate
  by_cases g1 : 20 < coefs.length
  · go_enter Try.func3, Try.ntmps3
    go_wp2_with fail
    go_ret
    exact ⟨rfl, Chg.refl _ _⟩
  have d1 : decide (20 < coefs.length) = false := by simpa using g1
  by_cases g2 : 20 < state.length
  · go_enter Try.func3, Try.ntmps3
    go_wp2_with fail
    go_ret
    exact ⟨rfl, Chg.refl _ _⟩
  have d2 : decide (20 < state.length) = false := by simpa using g2
  go_enter Try.func3, Try.ntmps3
  go_wp2_with fail
  clear d1 d2 l1 l2
  refine (new_any A n c xs _ HH.out hm).mono ?_
  rintro e w1 ⟨p, rfl, hp, ht, hc⟩
  have HT := Lib.hid ht; clear ht
  have HC1 := Lib.hid hc; clear hc
  go_wp2_with fail
  refine (program_any p 8 6 _ HT.out (by omega) (by omega) (by omega)).mono ?_
  rintro e w2 ⟨v, rfl, ⟨P, hP, hsm, hgood⟩, ht, hc⟩
  obtain ⟨PA, pc, PR, pd, rfl, hPA⟩ := hP.open
  have hn : P.costs.length ≤ 1000 := by have := hsm.1; omega
  have hr : P.rows.length ≤ 1000000 := by have := hsm.2.1; omega
  have HGOOD := Lib.hid hgood; clear hgood
  have HSM := Lib.hid hsm; clear hsm
  have hp2 := ht.lt
  have HC2 : Hid (Chg No w w2) := (HC1.out.andThen hc fun b hb h => by have : b = p := h; omega)
  have HPA := Lib.hid (fun o => hPA.fresh.keep ((Chg.refl No w2).alloc o))
  have hsz2 := HC2.out.size
  have HT2 := Lib.hid (fun o => ht.keep ((Chg.refl No w2).alloc o))
  have b4 := Blk.made w2 27 #[.slice PA P.costs.length pc, .slice PR P.rows.length pd]
  have HB4 := Lib.hid b4
  clear b4 hP hPA ht hc HT HC1
  go_wp2_with fail
  refine (state_any p P.costs.length _ (HT2.out _) (by omega)).mono ?_
  rintro e w3 ⟨v, rfl, ⟨st, ho, hprops⟩, ht, hc⟩
  have hst : st.length ≤ 1000 := by have := hprops.1; omega
  have HPROPS := Lib.hid hprops; clear hprops
  have hp3 := ht.lt
  have hs3 := hc.size
  simp only [World.size_alloc] at hs3
  have HC3 : Hid (Chg No w w3) := (HC2.out.alloc _).andThen hc fun b hb h => by have : b = p := h; omega
  have HPA3 := Lib.hid ((HPA.out _).chg hc fun _ _ h => .inl h)
  have HB43 := Lib.hid (HB4.out.chg hc (fun h => by have : w2.heap.size = p := h; omega))
  have HO3 := Lib.hid ho
  have HT3 := Lib.hid ht
  clear ho ht hc HPA HT2 HB4 HC2
  go_wp2_with fail
  refine (one_any p _ _ HT3.out (by omega) (by omega)).mono ?_
  rintro e w4 ⟨v1, rfl, ⟨b, rfl⟩, ht, hc⟩
  have HC4 : Hid (Chg No w w4) := HC3.out.andThen hc fun b hb h => by have : b = p := h; omega
  have HPA4 := Lib.hid (HPA3.out.chg hc fun _ _ h => .inl h)
  have HB44 := Lib.hid (HB43.out.chg hc (fun h => by have : w2.heap.size = p := h; omega))
  have HO4 := Lib.hid (HO3.out.int_chg hc (own_apart HO3.out (by simp; omega)))
  have HT4 := Lib.hid ht
  have hs4 := hc.size
  have hp4 := ht.lt
  clear ht hc HPA3 HB43 HO3 HT3 HC3
  cases b with
  | false =>
    obtain ⟨U, uc, rfl, -, hu⟩ := HO4.out.ints (Y := Is p) (own_apart HO4.out (by simp; omega))
    have HU := Lib.hid hu; clear hu
    have HCS := Lib.hid ((Chg.refl No w4).alloc (.cells #[.slice CA coefs.length cc, .int .i64 0, .int .i64 0] 32))
    have hws := HC4.out
    have HCO := Lib.hid ((HCOEF.out.keep _ hws).keep _ HCS.out)
    have HSS := Lib.hid ((HSTATE.out.keep _ hws).keep _ HCS.out)
    have HG10 := Lib.hid (Blk.made w4 32 #[.slice CA coefs.length cc, .int .i64 0, .int .i64 0])
    clear hws
    go_wp2_with fail
    refine (span_any _ _ _ _ _ _ _ _ coefs state _ HCO.out HSS.out (by omega) (by omega)).mono ?_
    rintro e w7 ⟨rfl, hc7⟩
    have g7 := HG10.out.chg hc7 no_
    have q0 : w7.cell? ⟨w4.heap.size, 0, none⟩ = some (.slice CA coefs.length cc) := by rw [g7.cell]; rfl
    have q1 : w7.cell? ⟨w4.heap.size, 1, none⟩ = some (.int .i64 0) := by rw [g7.cell]; rfl
    have q2 : w7.cell? ⟨w4.heap.size, 2, none⟩ = some (.int .i64 0) := by rw [g7.cell]; rfl
    have HC7 := Lib.hid (HCS.out.trans hc7)
    have HCO7 := Lib.hid (HCO.out.keep _ hc7)
    have HSS7 := Lib.hid (HSS.out.keep _ hc7)
    clear hc7 g7
    go_wp2_with fail
    refine (spanR_any _ _ _ _ _ _ _ _ coefs state _ HCO7.out HSS7.out (by omega) (by omega)).mono ?_
    rintro e w8 ⟨rfl, hc8⟩
    have HC8 := Lib.hid (HC7.out.trans hc8); clear hc8
    have bd := span_bd (cs := coefs) (st := state)
    generalize (spanF coefs state).1 = lo at *
    generalize (spanF coefs state).2 = hi at *
    generalize spanB coefs state = ok at *
    have n1 : (lo != lo) = false := by simp
    have n2 : (hi != hi) = false := by simp
    have n3 : (ok != ok) = false := by simp
    have k0 : w8.cell? ⟨w2.heap.size, 0, none⟩ = some (.slice PA P.costs.length pc) := by rw [(HB44.out.chg HC8.out no_).cell]; rfl
    have k1 : w8.cell? ⟨w2.heap.size, 1, none⟩ = some (.slice PR P.rows.length pd) := by rw [(HB44.out.chg HC8.out no_).cell]; rfl
    go_wp2_with fail
    clear n1 n2 n3 bd
    go_loopw [17] (fun i wr => ∃ j : Nat, j ≤ P.rows.length ∧ i = .int .i64 j ∧ Chg No w4 wr) (fun i _ => P.rows.length - (intOf i).toNat)
    case atStart => exact ⟨0, Nat.zero_le _, rfl, HC8.out⟩
    case round =>
      clear k0 k1
      obtain ⟨j, hj, rfl, hch⟩ := hrel
      have k0 : wr.cell? ⟨w2.heap.size, 0, none⟩ = some (.slice PA P.costs.length pc) := by rw [(HB44.out.chg hch no_).cell]; rfl
      have k1 : wr.cell? ⟨w2.heap.size, 1, none⟩ = some (.slice PR P.rows.length pd) := by rw [(HB44.out.chg hch no_).cell]; rfl
      have HCH := Lib.hid hch; clear hch
      by_cases hlt : j < P.rows.length
      · obtain ⟨b, off, rfl, hb, -, hcc⟩ := (HPA4.out.keep HCH.out).rows.row_at (by omega)
        obtain ⟨A', n', c', r0, r1, r2, hI⟩ := hcc j hlt
        have hln : n' ≤ 1000000 := by have := HSM.out.2.2 _ (rowAt_mem hlt); have := hI.len; omega
        have HI := Lib.hid hI; clear hI hcc
        have HUR := Lib.hid (HU.out.keep _ HCH.out)
        go_wp2_with fail
        refine (span_any _ _ _ _ _ _ _ _ _ st _ HI.out HUR.out hln (by omega)).mono ?_
        rintro e w10 ⟨rfl, hc10⟩
        have g10 := (HB44.out.chg (HCH.out.trans hc10) no_)
        have m1 : w10.cell? ⟨w2.heap.size, 1, none⟩ = some (.slice (some ⟨b, off, none⟩) P.rows.length pd) := by rw [g10.cell]; rfl
        have hr10 := (HPA4.out.keep (HCH.out.trans hc10)).rows.row_at (by omega)
        have s0 : w10.cell? ⟨b, off + j * 3, none⟩ = some (.slice A' n' c') := by rw [hc10.cell hb no_]; exact r0
        have s1 : w10.cell? ⟨b, off + j * 3 + 1, none⟩ = some (.int .i64 (rowAt P.rows j).least) := by rw [hc10.cell hb no_]; exact r1
        have s2 : w10.cell? ⟨b, off + j * 3 + 2, none⟩ = some (.int .i64 (rowAt P.rows j).most) := by rw [hc10.cell hb no_]; exact r2
        have HI10 := Lib.hid (HI.out.keep _ hc10)
        have HU10 := Lib.hid (HUR.out.keep _ hc10)
        have HC10 := Lib.hid (HCH.out.trans hc10)
        clear hr10 g10 hc10
        go_wp2_with fail
        refine (spanR_any _ _ _ _ _ _ _ _ _ st _ HI10.out HU10.out hln (by omega)).mono ?_
        rintro e w11 ⟨rfl, hc11⟩
        have HC11 := Lib.hid (HC10.out.trans hc11); clear hc11
        generalize (spanF (rowAt P.rows j).coefs st).1 = lo2 at *
        generalize (spanF (rowAt P.rows j).coefs st).2 = hi2 at *
        generalize spanB (rowAt P.rows j).coefs st = ok2 at *
        have n1 : (lo2 != lo2) = false := by simp
        have n2 : (hi2 != hi2) = false := by simp
        have n3 : (ok2 != ok2) = false := by simp
        go_wp2_with fail
        go_roundw
        case rel => exact ⟨j + 1, by omega, by go_num, HC11.out⟩
        case measure => simp [intOf]; omega
      · go_wp2_with fail
        refine (awake_any _).mono ?_
        rintro e w12 ⟨rfl, hc12⟩
        have HC12 := Lib.hid ((HC4.out.trans HCH.out).trans hc12); clear hc12
        go_wp2_with fail
        go_ret
        exact ⟨rfl, HC12.out⟩
  | true =>
    have hs5 := hs4
    have HC5 := HC4
    have HPA5 := HPA4
    have HB45 := HB44
    have HO5 := Lib.hid (fun o => HO4.out.keep ((Chg.refl No w4).alloc o))
    have HBS : Hid (∀ o, (w2.alloc (.cells #[.slice PA P.costs.length pc, .slice PR P.rows.length pd] 27)).heap.size ≤ (w4.alloc o).heap.size) := fun o => by simp only [World.size_alloc]; omega
    have hl3 : st.length ≤ 1000000 := by omega
    have hob := (HO4.out.blk)
    simp only [World.size_alloc] at hob
    have HOB := Lib.hid hob; clear hob
    go_wp2_with (at_builtin; refine wpList_append_rep (r := Rep.int) (v := v) (xs := st) (base := (w2.alloc (.cells #[.slice PA P.costs.length pc, .slice PR P.rows.length pd] 27)).heap.size) (X := No) rfl 22 3 elemInt (.tmp 37) (.tmp 38) rfl rfl (HO5.out _) ⟨w4.heap.size, 0, none⟩ 1 [.int .i64 2] 2 rfl (cell_one_new _ _ _) rfl hl3 (HBS.out _) ?_; intro A' c' w6 ho6 hc6 hb6; have HO6 := Lib.hid ho6; clear ho6; have HC6 := Lib.hid hc6; clear hc6; clear hb6)
    have hob := HOB.out
    have HC56 : Hid (Chg No w w6) := (HC5.out.alloc _).andThen HC6.out fun b hb h => by have := hob b h; omega
    have HPA6 := Lib.hid ((HPA5.out.keep ((Chg.refl No w4).alloc _)).chg HC6.out fun b _ h => .inr (by have := hob b h; omega))
    have HB46 := Lib.hid ((HB45.out.chg ((Chg.refl No w4).alloc _) no_).chg HC6.out (fun h => by have := hob _ h; omega))
    obtain ⟨U, uc, hUe, -, hu⟩ := HO6.out.ints (Y := Is p) (own_apart HO6.out (by simp; omega))
    simp only [List.length_append, List.length_singleton] at hu hUe
    injection hUe with hU1 hU2 hU3
    subst hU1 hU3
    have HU := Lib.hid hu; clear hu hU2
    clear hob
    have HCS := Lib.hid ((Chg.refl No w6).alloc (.cells #[.slice CA coefs.length cc, .int .i64 0, .int .i64 0] 32))
    have hws := HC56.out
    have HCO := Lib.hid ((HCOEF.out.keep _ hws).keep _ HCS.out)
    have HSS := Lib.hid ((HSTATE.out.keep _ hws).keep _ HCS.out)
    have HG10 := Lib.hid (Blk.made w6 32 #[.slice CA coefs.length cc, .int .i64 0, .int .i64 0])
    clear hws
    refine (span_any _ _ _ _ _ _ _ _ coefs state _ HCO.out HSS.out (by omega) (by omega)).mono ?_
    rintro e w7 ⟨rfl, hc7⟩
    have g7 := HG10.out.chg hc7 no_
    have q0 : w7.cell? ⟨w6.heap.size, 0, none⟩ = some (.slice CA coefs.length cc) := by rw [g7.cell]; rfl
    have q1 : w7.cell? ⟨w6.heap.size, 1, none⟩ = some (.int .i64 0) := by rw [g7.cell]; rfl
    have q2 : w7.cell? ⟨w6.heap.size, 2, none⟩ = some (.int .i64 0) := by rw [g7.cell]; rfl
    have HC7 := Lib.hid (HCS.out.trans hc7)
    have HCO7 := Lib.hid (HCO.out.keep _ hc7)
    have HSS7 := Lib.hid (HSS.out.keep _ hc7)
    clear hc7 g7
    go_wp2_with fail
    refine (spanR_any _ _ _ _ _ _ _ _ coefs state _ HCO7.out HSS7.out (by omega) (by omega)).mono ?_
    rintro e w8 ⟨rfl, hc8⟩
    have HC8 := Lib.hid (HC7.out.trans hc8); clear hc8
    have bd := span_bd (cs := coefs) (st := state)
    generalize (spanF coefs state).1 = lo at *
    generalize (spanF coefs state).2 = hi at *
    generalize spanB coefs state = ok at *
    have n1 : (lo != lo) = false := by simp
    have n2 : (hi != hi) = false := by simp
    have n3 : (ok != ok) = false := by simp
    have k0 : w8.cell? ⟨w2.heap.size, 0, none⟩ = some (.slice PA P.costs.length pc) := by rw [(HB46.out.chg HC8.out no_).cell]; rfl
    have k1 : w8.cell? ⟨w2.heap.size, 1, none⟩ = some (.slice PR P.rows.length pd) := by rw [(HB46.out.chg HC8.out no_).cell]; rfl
    go_wp2_with fail
    clear n1 n2 n3 bd
    go_loopw [17] (fun i wr => ∃ j : Nat, j ≤ P.rows.length ∧ i = .int .i64 j ∧ Chg No w6 wr) (fun i _ => P.rows.length - (intOf i).toNat)
    case atStart => exact ⟨0, Nat.zero_le _, rfl, HC8.out⟩
    case round =>
      clear k0 k1
      obtain ⟨j, hj, rfl, hch⟩ := hrel
      have k0 : wr.cell? ⟨w2.heap.size, 0, none⟩ = some (.slice PA P.costs.length pc) := by rw [(HB46.out.chg hch no_).cell]; rfl
      have k1 : wr.cell? ⟨w2.heap.size, 1, none⟩ = some (.slice PR P.rows.length pd) := by rw [(HB46.out.chg hch no_).cell]; rfl
      have HCH := Lib.hid hch; clear hch
      by_cases hlt : j < P.rows.length
      · obtain ⟨b, off, rfl, hb, -, hcc⟩ := (HPA6.out.keep HCH.out).rows.row_at (by omega)
        obtain ⟨A', n', c', r0, r1, r2, hI⟩ := hcc j hlt
        have hln : n' ≤ 1000000 := by have := HSM.out.2.2 _ (rowAt_mem hlt); have := hI.len; omega
        have HI := Lib.hid hI; clear hI hcc
        have HUR := Lib.hid (HU.out.keep _ HCH.out)
        go_wp2_with fail
        refine (span_any _ _ _ _ _ _ _ _ _ (st ++ [2]) _ HI.out HUR.out hln (by omega)).mono ?_
        rintro e w10 ⟨rfl, hc10⟩
        have g10 := (HB46.out.chg (HCH.out.trans hc10) no_)
        have m1 : w10.cell? ⟨w2.heap.size, 1, none⟩ = some (.slice (some ⟨b, off, none⟩) P.rows.length pd) := by rw [g10.cell]; rfl
        have hr10 := (HPA6.out.keep (HCH.out.trans hc10)).rows.row_at (by omega)
        have s0 : w10.cell? ⟨b, off + j * 3, none⟩ = some (.slice A' n' c') := by rw [hc10.cell hb no_]; exact r0
        have s1 : w10.cell? ⟨b, off + j * 3 + 1, none⟩ = some (.int .i64 (rowAt P.rows j).least) := by rw [hc10.cell hb no_]; exact r1
        have s2 : w10.cell? ⟨b, off + j * 3 + 2, none⟩ = some (.int .i64 (rowAt P.rows j).most) := by rw [hc10.cell hb no_]; exact r2
        have HI10 := Lib.hid (HI.out.keep _ hc10)
        have HU10 := Lib.hid (HUR.out.keep _ hc10)
        have HC10 := Lib.hid (HCH.out.trans hc10)
        clear hr10 g10 hc10
        go_wp2_with fail
        refine (spanR_any _ _ _ _ _ _ _ _ _ (st ++ [2]) _ HI10.out HU10.out hln (by omega)).mono ?_
        rintro e w11 ⟨rfl, hc11⟩
        have HC11 := Lib.hid (HC10.out.trans hc11); clear hc11
        generalize (spanF (rowAt P.rows j).coefs (st ++ [2])).1 = lo2 at *
        generalize (spanF (rowAt P.rows j).coefs (st ++ [2])).2 = hi2 at *
        generalize spanB (rowAt P.rows j).coefs (st ++ [2]) = ok2 at *
        have n1 : (lo2 != lo2) = false := by simp
        have n2 : (hi2 != hi2) = false := by simp
        have n3 : (ok2 != ok2) = false := by simp
        go_wp2_with fail
        go_roundw
        case rel => exact ⟨j + 1, by omega, by go_num, HC11.out⟩
        case measure => simp [intOf]; omega
      · go_wp2_with fail
        refine (awake_any _).mono ?_
        rintro e w12 ⟨rfl, hc12⟩
        have HC12 := Lib.hid ((HC56.out.trans HCH.out).trans hc12); clear hc12
        go_wp2_with fail
        go_ret
        exact ⟨rfl, HC12.out⟩
end Go.Proofs.Ytipelkbdonfkoaa
