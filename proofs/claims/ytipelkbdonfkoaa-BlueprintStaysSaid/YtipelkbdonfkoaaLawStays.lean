/- The law BlueprintStays: it returns true. -/
import Derived.Test.YtipelkbdonfkoaaAwake08
import Derived.Test.YtipelkbdonfkoaaGen
import Derived.Test.YtipelkbdonfkoaaLawDead
import Derived.Test.YtipelkbdonfkoaaAppend
import Derived.Test.YtipelkbdonfkoaaStays08
namespace Go.Proofs.Ytipelkbdonfkoaa
set_option linter.unusedVariables false
open Go.RowKit

set_option maxRecDepth 100000 in
set_option maxHeartbeats 4000000 in
theorem law_stays (A : Option Addr) (n c : Nat) (xs : List Int) (at_ value : Int) (w : World) (h : Ints w No A n c xs) (hm : c ≤ maxLen) :
    Calls Try.prog 6 #[.slice A n c, .int .i64 at_, .int .i64 value] w (BoolPost true w) := by
  have HH := Lib.hid h; clear h
  go_enter Try.func6, Try.ntmps6
  go_wp2_with fail
  refine (new_any A n c xs _ HH.out hm).mono ?_
  rintro e w1 ⟨p, rfl, hp, ht, hc⟩
  have HT := Lib.hid ht; clear ht
  have HC1 := Lib.hid hc; clear hc
  go_wp2_with fail
  refine (program_any p 6 0 _ HT.out (by omega) (by omega) (by omega)).mono ?_
  rintro e w2 ⟨v, rfl, ⟨P, hP, hsm, hgood⟩, ht, hc⟩
  obtain ⟨PA, pc, PR, pd, rfl, hPA⟩ := hP.open
  have hn : P.costs.length ≤ 1000 := by have := hsm.1; omega
  have hr : P.rows.length ≤ 1000000 := by have := hsm.2.1; omega
  have HGOOD := Lib.hid hgood; clear hgood
  have HSM := Lib.hid hsm; clear hsm
  have hp2 := ht.lt
  have HC2 : Hid (Chg No w w2) := (HC1.out.andThen hc fun b hb h => by have : b = p := h; omega)
  have HPA := Lib.hid (fun o => hPA.fresh.keep ((Chg.refl No w2).alloc o))
  have hsz2 := HC2.out.size
  have HT2 := Lib.hid (fun o => ht.keep ((Chg.refl No w2).alloc o))
  have b4 := Blk.made w2 27 #[.slice PA P.costs.length pc, .slice PR P.rows.length pd]
  have HB4 := Lib.hid b4
  clear b4 hP hPA ht hc HT HC1
  go_wp2_with fail
  refine (state_any p P.costs.length _ (HT2.out _) (by omega)).mono ?_
  rintro e w3 ⟨v, rfl, ⟨st, ho, hprops⟩, ht, hc⟩
  have hst : st.length ≤ 1000 := by have := hprops.1; omega
  have HPROPS := Lib.hid hprops; clear hprops
  have hp3 := ht.lt
  have hs3 := hc.size
  simp only [World.size_alloc] at hs3
  have HC3 : Hid (Chg No w w3) := (HC2.out.alloc _).andThen hc fun b hb h => by have : b = p := h; omega
  have HPA3 := Lib.hid ((HPA.out _).chg hc fun _ _ h => .inl h)
  have HB43 := Lib.hid (HB4.out.chg hc (fun h => by have : w2.heap.size = p := h; omega))
  have HO3 := Lib.hid ho
  have HT3 := Lib.hid ht
  clear ho ht hc HPA HT2 HB4 HC2
  obtain ⟨U, uc, rfl, -, hu⟩ := HO3.out.ints (Y := Is p) (own_apart HO3.out (by simp; omega))
  have HUw3 := Lib.hid hu; clear hu
  have HPw3 := HPA3
  have HBw3 := HB43
  have HCw3 := HC3
  have HSRC : Hid (Slc Rep.int w3 (fun b => No b ∨ (Value.slice none 0 0).ownBlock = some b) U st.length uc st) := HUw3.out.less _ fun b hb h => h.elim (fun h => h.elim) fun h => by cases h
  have hl3 : ([] : List Int).length + st.length ≤ 1000000 := by simp; omega
  have hob := HO3.out.blk
  simp only [World.size_alloc] at hob
  have HOB := Lib.hid hob; clear hob
  by_cases hst0 : 0 < st.length
  · go_wp2_with (at_builtin; refine wpList_append_slc (r := Rep.int) (v := .slice none 0 0) (xs := []) (base := w3.heap.size) (X := No) rfl 22 3 elemInt (.tmp 20) (.tmp 21) rfl rfl Own.nil U st.length uc st rfl HSRC.out hl3 (Nat.le_refl _) ?_; intro A' c' w6 ho6 hc6 hb6; have HO6 := Lib.hid ho6; clear ho6; have HC6 := Lib.hid hc6; clear hc6; clear hb6)
    have ho6 := HO6.out
    simp only [List.nil_append, List.length_nil, Nat.zero_add] at ho6
    obtain ⟨g, cg, hvg, hg1, hg2⟩ := ho6.addr hst0
    injection hvg with hvg1 hvg2 hvg3
    subst hvg1 hvg3
    have hc6 := HC6.out
    have hcn : Chg No w3 w6 := hc6.mono fun b hb h => by simp [Value.ownBlock] at h
    have HCw6 := Lib.hid (HCw3.out.trans hcn)
    have HPw6 := Lib.hid (HPw3.out.keep hcn)
    have HUw6 := Lib.hid (HUw3.out.keep _ hcn)
    have HBw6 := Lib.hid (HBw3.out.chg hcn no_)
    have HCN := Lib.hid hcn
    have HV6 := Lib.hid ho6
    clear hc6 hcn ho6 hvg2 HO6 HC6 HSRC
    refine (cut_any at_ _ _ (by omega)).mono ?_
    rintro e w7 ⟨rfl, rfl⟩
    have hcut := cutF_in at_ st.length (by omega)
    obtain ⟨k, hkq⟩ := Int.eq_ofNat_of_zero_le hcut.1
    have hk : k < st.length := by omega
    rw [hkq]
    have HKQ := Lib.hid hkq
    clear hcut hkq
    have ck := HV6.out.int_cell hk
    have fk := HV6.out.int_frozen k
    by_cases hneg : nth st k = -1
    · have HNEG := Lib.hid hneg
      rw [hneg] at ck
      clear hneg
      go_wp2_with fail
      refine (cut_any at_ _ _ (by omega)).mono ?_
      rintro e w7 ⟨rfl, rfl⟩
      rw [HKQ.out]
      go_wp2_with fail
      refine (cut_any value 2 _ (by omega)).mono ?_
      rintro e w7 ⟨rfl, rfl⟩
      have hy := cutF_in value 2 (by omega)
      generalize cutF value 2 = y at *
      have HV9 := Lib.hid (HV6.out.int_set k y)
      have hset : Chg (Is g) w6 (w6.setCell ⟨g, k, none⟩ (.int .i64 y)) := (Chg.refl (Is g) w6).setCell (p := ⟨g, k, none⟩) (.inl is_) _
      have hcn9 : Chg No w3 (w6.setCell ⟨g, k, none⟩ (.int .i64 y)) := HCN.out.andThen hset fun b hb h => by have : b = g := h; omega
      have HC9 := Lib.hid (HCw3.out.trans hcn9)
      have HP9 := Lib.hid (HPw3.out.keep hcn9)
      have HU9 := Lib.hid (HUw3.out.keep _ hcn9)
      have HB9 := Lib.hid (HBw3.out.chg hcn9 no_)
      have HDEC := Lib.hid (fun hd => dead_stays (P := P) (decides_set hk HNEG.out (by omega : y = 0 ∨ y = 1)) hd)
      have k0 : w6.cell? ⟨w2.heap.size, 0, none⟩ = some (.slice PA P.costs.length pc) := by rw [HBw6.out.cell]; rfl
      have k1 : w6.cell? ⟨w2.heap.size, 1, none⟩ = some (.slice PR P.rows.length pd) := by rw [HBw6.out.cell]; rfl
      have hgn : ¬ g = w2.heap.size := by omega
      have hgn' : ¬ w2.heap.size = g := by omega
      have hl9 := HV9.out.ints (Y := Is p) (by intro q hq he; simp only [Value.ownBlock, Option.some.injEq] at hq; have : q = p := he; omega)
      obtain ⟨U', uc', hUe, -, hu'⟩ := hl9
      simp only [List.length_set] at hUe hu'
      injection hUe with hU1 hU2 hU3
      subst hU1 hU3
      have HVV := Lib.hid hu'; clear hu' hU2 hset hcn9
      have k0' : (w6.setCell ⟨g, k, none⟩ (.int .i64 y)).cell? ⟨w2.heap.size, 0, none⟩ = some (.slice PA P.costs.length pc) := by rw [HB9.out.cell]; rfl
      have k1' : (w6.setCell ⟨g, k, none⟩ (.int .i64 y)).cell? ⟨w2.heap.size, 1, none⟩ = some (.slice PR P.rows.length pd) := by rw [HB9.out.cell]; rfl
      go_wp2_with fail
      refine (dead_any _ _ _ _ _ _ _ _ _ P st _ HP9.out HU9.out (by omega) hr (by omega)).mono ?_
      rintro e wa ⟨rfl, hca⟩
      have k0a : wa.cell? ⟨w2.heap.size, 0, none⟩ = some (.slice PA P.costs.length pc) := by rw [(HB9.out.chg hca no_).cell]; rfl
      have k1a : wa.cell? ⟨w2.heap.size, 1, none⟩ = some (.slice PR P.rows.length pd) := by rw [(HB9.out.chg hca no_).cell]; rfl
      have HCA := Lib.hid hca; clear hca
      rcases dead_neg (P := P) (st := st) with hd | hd
      · rw [hd]
        go_wp2_with fail
        refine (awake_any _).mono ?_
        rintro e wc ⟨rfl, hcc⟩
        have HCC := Lib.hid ((HC9.out.trans HCA.out).trans hcc); clear hcc hd
        go_wp2_with fail
        go_ret
        exact ⟨rfl, HCC.out⟩
      · have hd2 : 0 ≤ deadF P (st.set k y) := HDEC.out hd
        have HD2 := Lib.hid hd2; clear hd2
        have hdd : (deadF P st == -1) = false := by simp; omega
        clear hd
        go_wp2_with fail
        refine (dead_any _ _ _ _ _ _ _ _ _ P (st.set k y) _ (HP9.out.keep HCA.out) (HVV.out.keep _ HCA.out) (by omega) hr (by first | omega | (simp; omega))).mono ?_
        rintro e wb ⟨rfl, hcb⟩
        have HCB := Lib.hid (HCA.out.trans hcb); clear hcb
        have hd3 := HD2.out
        clear HD2 hdd
        generalize deadF P (st.set k y) = ee at *
        go_wp2_with fail
        refine (awake_any _).mono ?_
        rintro e wc ⟨rfl, hcc⟩
        have HCC := Lib.hid ((HC9.out.trans HCB.out).trans hcc); clear hcc
        go_wp2_with fail
        go_ret
        exact ⟨rfl, HCC.out⟩
    · have hnb : (nth st k == -1) = false := by simp [hneg]
      clear hneg
      obtain ⟨U', uc', hUe, -, hu'⟩ := HV6.out.ints (Y := Is p) (own_apart HV6.out (by omega))
      injection hUe with hU1 hU2 hU3
      subst hU1 hU3
      have HVV := Lib.hid hu'; clear hu' hU2
      have k0 : w6.cell? ⟨w2.heap.size, 0, none⟩ = some (.slice PA P.costs.length pc) := by rw [HBw6.out.cell]; rfl
      have k1 : w6.cell? ⟨w2.heap.size, 1, none⟩ = some (.slice PR P.rows.length pd) := by rw [HBw6.out.cell]; rfl
      go_wp2_with fail
      refine (dead_any _ _ _ _ _ _ _ _ _ P st _ HPw6.out HUw6.out (by omega) hr (by omega)).mono ?_
      rintro e wa ⟨rfl, hca⟩
      have k0a : wa.cell? ⟨w2.heap.size, 0, none⟩ = some (.slice PA P.costs.length pc) := by rw [(HBw6.out.chg hca no_).cell]; rfl
      have k1a : wa.cell? ⟨w2.heap.size, 1, none⟩ = some (.slice PR P.rows.length pd) := by rw [(HBw6.out.chg hca no_).cell]; rfl
      have HCA := Lib.hid hca; clear hca
      rcases dead_neg (P := P) (st := st) with hd | hd
      · rw [hd]
        go_wp2_with fail
        refine (awake_any _).mono ?_
        rintro e wc ⟨rfl, hcc⟩
        have HCC := Lib.hid ((HCw6.out.trans HCA.out).trans hcc); clear hcc hd
        go_wp2_with fail
        go_ret
        exact ⟨rfl, HCC.out⟩
      · have hd2 : 0 ≤ deadF P st := hd
        have HD2 := Lib.hid hd2; clear hd2
        have hdd : (deadF P st == -1) = false := by simp; omega
        clear hd
        go_wp2_with fail
        refine (dead_any _ _ _ _ _ _ _ _ _ P st _ (HPw6.out.keep HCA.out) (HVV.out.keep _ HCA.out) (by omega) hr (by first | omega | (simp; omega))).mono ?_
        rintro e wb ⟨rfl, hcb⟩
        have HCB := Lib.hid (HCA.out.trans hcb); clear hcb
        have hd3 := HD2.out
        clear HD2 hdd
        generalize deadF P st = ee at *
        go_wp2_with fail
        refine (awake_any _).mono ?_
        rintro e wc ⟨rfl, hcc⟩
        have HCC := Lib.hid ((HCw6.out.trans HCB.out).trans hcc); clear hcc
        go_wp2_with fail
        go_ret
        exact ⟨rfl, HCC.out⟩
  · obtain rfl : st = [] := List.eq_nil_of_length_eq_zero (by omega)
    go_wp2_with (at_builtin; refine wpList_append_slc (r := Rep.int) (v := .slice none 0 0) (xs := []) (base := w3.heap.size) (X := No) rfl 22 3 elemInt (.tmp 20) (.tmp 21) rfl rfl Own.nil U ([] : List Int).length uc [] rfl HSRC.out hl3 (Nat.le_refl _) ?_; intro A' c' w6 ho6 hc6 hb6; have HO6 := Lib.hid ho6; clear ho6; have HC6 := Lib.hid hc6; clear hc6; clear hb6; have bx := HBw3.out.chg HC6.out (fun h => by simp [Value.ownBlock] at h); have k06 : w6.cell? ⟨w2.heap.size, 0, none⟩ = some (.slice PA P.costs.length pc) := bx.cell 0; have k16 : w6.cell? ⟨w2.heap.size, 1, none⟩ = some (.slice PR P.rows.length pd) := bx.cell 1; clear bx)
    have ho6 := HO6.out
    simp only [List.nil_append, List.length_nil, Nat.zero_add] at ho6
    have hcn : Chg No w3 w6 := HC6.out.mono fun b hb h => by simp [Value.ownBlock] at h
    have HCw6 := Lib.hid (HCw3.out.trans hcn)
    have HPw6 := Lib.hid (HPw3.out.keep hcn)
    have HUw6 := Lib.hid (HUw3.out.keep _ hcn)
    have HBw6 := Lib.hid (HBw3.out.chg hcn no_)
    obtain ⟨U', uc', hUe, -, hu'⟩ := ho6.ints (Y := Is p) (own_apart ho6 (by omega))
    injection hUe with hU1 hU2 hU3
    subst hU1 hU3
    have HVV := Lib.hid hu'
    clear hu' hU2 ho6 hcn HO6 HC6
    refine (dead_any _ _ _ _ _ _ _ _ _ P [] _ HPw6.out HUw6.out (by omega) hr (by omega)).mono ?_
    rintro e wa ⟨rfl, hca⟩
    have k0a : wa.cell? ⟨w2.heap.size, 0, none⟩ = some (.slice PA P.costs.length pc) := by rw [(HBw6.out.chg hca no_).cell]; rfl
    have k1a : wa.cell? ⟨w2.heap.size, 1, none⟩ = some (.slice PR P.rows.length pd) := by rw [(HBw6.out.chg hca no_).cell]; rfl
    have HCA := Lib.hid hca; clear hca
    rcases dead_neg (P := P) (st := []) with hd | hd
    · rw [hd]
      go_wp2_with fail
      refine (awake_any _).mono ?_
      rintro e wc ⟨rfl, hcc⟩
      have HCC := Lib.hid ((HCw6.out.trans HCA.out).trans hcc); clear hcc hd
      go_wp2_with fail
      go_ret
      exact ⟨rfl, HCC.out⟩
    · have hd2 : 0 ≤ deadF P [] := hd
      have HD2 := Lib.hid hd2; clear hd2
      have hdd : (deadF P [] == -1) = false := by simp; omega
      clear hd
      go_wp2_with fail
      refine (dead_any _ _ _ _ _ _ _ _ _ P [] _ (HPw6.out.keep HCA.out) (HVV.out.keep _ HCA.out) (by omega) hr (by first | omega | (simp; omega))).mono ?_
      rintro e wb ⟨rfl, hcb⟩
      have HCB := Lib.hid (HCA.out.trans hcb); clear hcb
      have hd3 := HD2.out
      clear HD2 hdd
      generalize deadF P [] = ee at *
      go_wp2_with fail
      refine (awake_any _).mono ?_
      rintro e wc ⟨rfl, hcc⟩
      have HCC := Lib.hid ((HCw6.out.trans HCB.out).trans hcc); clear hcc
      go_wp2_with fail
      go_ret
      exact ⟨rfl, HCC.out⟩
end Go.Proofs.Ytipelkbdonfkoaa
