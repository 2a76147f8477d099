/- The law BlueprintPrograms: it returns true. -/
import Derived.Test.YtipelkbdonfkoaaAwake08
import Derived.Test.YtipelkbdonfkoaaGen
import Derived.Test.YtipelkbdonfkoaaLawDead
import Derived.Deep.RegionHeld3
namespace Go.Proofs.Ytipelkbdonfkoaa
open Go.RowKit

set_option maxRecDepth 100000 in
set_option maxHeartbeats 4000000 in
theorem law_programs (A CA : Option Addr) (n c cn cc : Nat) (xs chosen : List Int) (w : World) (h : Ints w No A n c xs) (hcho : Ints w No CA cn cc chosen) (hm : c ≤ maxLen) (hcm : cc ≤ maxLen) :
    Calls Try.prog 7 #[.slice A n c, .slice CA cn cc] w (BoolPost true w) := by
  obtain rfl := hcho.len
  have l1 := hcho.cap
  unfold maxLen at hcm
  have HH := Lib.hid h; clear h
  have HCHO := Lib.hid hcho; clear hcho
  by_cases g1 : 20 < chosen.length
  · go_enter Try.func7, Try.ntmps7
    go_wp2_with fail
    refine (new_any A n c xs _ HH.out hm).mono ?_
    rintro e w1 ⟨p, rfl, hp, ht, hc⟩
    have HT := Lib.hid ht; clear ht
    have HC1 := Lib.hid hc; clear hc
    go_wp2_with fail
    refine (program_any p 6 5 _ HT.out (by omega) (by omega) (by omega)).mono ?_
    rintro e w2 ⟨v, rfl, ⟨P, hP, hsm, hgood⟩, ht, hc⟩
    obtain ⟨PA, pc, PR, pd, rfl, hPA⟩ := hP.open
    have hn : P.costs.length ≤ 1000 := by have := hsm.1; omega
    have hr : P.rows.length ≤ 1000000 := by have := hsm.2.1; omega
    have HGOOD := Lib.hid hgood; clear hgood
    have HSM := Lib.hid hsm; clear hsm
    have hp2 := ht.lt
    have HC2 : Hid (Chg No w w2) := (HC1.out.andThen hc fun b hb h => by have : b = p := h; omega)
    have HPA := Lib.hid (fun o => hPA.fresh.keep ((Chg.refl No w2).alloc o))
    have hsz2 := HC2.out.size
    have HT2 := Lib.hid (fun o => ht.keep ((Chg.refl No w2).alloc o))
    have b4 := Blk.made w2 27 #[.slice PA P.costs.length pc, .slice PR P.rows.length pd]
    have HB4 := Lib.hid b4
    clear b4 hP hPA ht hc HT HC1
    go_wp2_with fail
    refine (sorted_any p P.costs.length _ (HT2.out _) (by omega)).mono ?_
    rintro e w3 ⟨v, rfl, ⟨st, ho, hprops⟩, ht, hc⟩
    have hst : st.length ≤ 1000 := by have := hprops.2; omega
    have HPROPS := Lib.hid hprops; clear hprops
    have hp3 := ht.lt
    have hs3 := hc.size
    simp only [World.size_alloc] at hs3
    have HC3 : Hid (Chg No w w3) := (HC2.out.alloc _).andThen hc fun b hb h => by have : b = p := h; omega
    have HPA3 := Lib.hid ((HPA.out _).chg hc fun _ _ h => .inl h)
    have HB43 := Lib.hid (HB4.out.chg hc (fun h => by have : w2.heap.size = p := h; omega))
    have HO3 := Lib.hid ho
    have HT3 := Lib.hid ht
    clear ho ht hc HPA HT2 HB4 HC2
    go_wp2_with fail
    refine (one_any p _ _ HT3.out (by omega) (by omega)).mono ?_
    rintro e w4 ⟨v1, rfl, ⟨b, rfl⟩, ht, hc⟩
    have HC4 : Hid (Chg No w w4) := HC3.out.andThen hc fun b hb h => by have : b = p := h; omega
    have HPA4 := Lib.hid (HPA3.out.chg hc fun _ _ h => .inl h)
    have HB44 := Lib.hid (HB43.out.chg hc (fun h => by have : w2.heap.size = p := h; omega))
    have HO4 := Lib.hid (HO3.out.int_chg hc (own_apart HO3.out (by simp; omega)))
    have HT4 := Lib.hid ht
    have hs4 := hc.size
    have hp4 := ht.lt
    clear ht hc HPA3 HB43 HO3 HT3 HC3
    cases b with
    | false =>
      obtain ⟨U, uc, rfl, -, hu⟩ := HO4.out.ints (Y := Is p) (own_apart HO4.out (by simp; omega))
      have HU := Lib.hid hu; clear hu
      go_wp2_with fail
      go_ret
      exact ⟨rfl, HC4.out⟩
    | true =>
      go_wp2_with fail
      refine (next_any p _ _ HT4.out (by omega)).mono ?_
      rintro e w5 ⟨v1, rfl, ⟨x, rfl, hx1, hx2⟩, ht, hc⟩
      clear hx1 hx2
      have hs5 := hc.size
      have HC5 : Hid (Chg No w w5) := HC4.out.andThen hc fun b hb h => by have : b = p := h; omega
      have HPA5 := Lib.hid (HPA4.out.chg hc fun _ _ h => .inl h)
      have HB45 := Lib.hid (HB44.out.chg hc (fun h => by have : w2.heap.size = p := h; omega))
      have HO5 := Lib.hid (fun o => HO4.out.int_chg (hc.alloc o) (own_apart HO4.out (by simp; omega)))
      clear ht hc
      have HBS : Hid (∀ o, (w2.alloc (.cells #[.slice PA P.costs.length pc, .slice PR P.rows.length pd] 27)).heap.size ≤ (w5.alloc o).heap.size) := fun o => by simp only [World.size_alloc]; omega
      have hl3 : st.length ≤ 1000000 := by omega
      have hob := (HO4.out.blk)
      simp only [World.size_alloc] at hob
      have HOB := Lib.hid hob; clear hob
      go_wp2_with (at_builtin; refine wpList_append_rep (r := Rep.int) (v := v) (xs := st) (base := (w2.alloc (.cells #[.slice PA P.costs.length pc, .slice PR P.rows.length pd] 27)).heap.size) (X := No) rfl 22 3 elemInt (.tmp 27) (.tmp 30) rfl rfl (HO5.out _) ⟨w5.heap.size, 0, none⟩ 1 [.int .i64 x] x rfl (cell_one_new _ _ _) rfl hl3 (HBS.out _) ?_; intro A' c' w6 ho6 hc6 hb6; have HO6 := Lib.hid ho6; clear ho6; have HC6 := Lib.hid hc6; clear hc6; clear hb6; have bx := (HB45.out.chg ((Chg.refl No w5).alloc _) no_).chg HC6.out (fun h => by have := HOB.out _ h; omega); have k06 : w6.cell? ⟨w2.heap.size, 0, none⟩ = some (.slice PA P.costs.length pc) := bx.cell 0; have k16 : w6.cell? ⟨w2.heap.size, 1, none⟩ = some (.slice PR P.rows.length pd) := bx.cell 1; clear bx)
      have hob := HOB.out
      have HC56 : Hid (Chg No w w6) := (HC5.out.alloc _).andThen HC6.out fun b hb h => by have := hob b h; omega
      have HPA6 := Lib.hid ((HPA5.out.keep ((Chg.refl No w5).alloc _)).chg HC6.out fun b _ h => .inr (by have := hob b h; omega))
      have HB46 := Lib.hid ((HB45.out.chg ((Chg.refl No w5).alloc _) no_).chg HC6.out (fun h => by have := hob _ h; omega))
      obtain ⟨U, uc, hUe, -, hu⟩ := HO6.out.ints (Y := Is p) (own_apart HO6.out (by simp; omega))
      simp only [List.length_append, List.length_singleton] at hu hUe
      injection hUe with hU1 hU2 hU3
      subst hU1 hU3
      have HU := Lib.hid hu; clear hu hU2
      clear hob
      go_ret
      exact ⟨rfl, HC56.out⟩
  go_enter Try.func7, Try.ntmps7
  go_wp2_with fail
  refine (new_any A n c xs _ HH.out hm).mono ?_
  rintro e w1 ⟨p, rfl, hp, ht, hc⟩
  have HT := Lib.hid ht; clear ht
  have HC1 := Lib.hid hc; clear hc
  go_wp2_with fail
  refine (program_any p 6 5 _ HT.out (by omega) (by omega) (by omega)).mono ?_
  rintro e w2 ⟨v, rfl, ⟨P, hP, hsm, hgood⟩, ht, hc⟩
  obtain ⟨PA, pc, PR, pd, rfl, hPA⟩ := hP.open
  have hn : P.costs.length ≤ 1000 := by have := hsm.1; omega
  have hr : P.rows.length ≤ 1000000 := by have := hsm.2.1; omega
  have HGOOD := Lib.hid hgood; clear hgood
  have HSM := Lib.hid hsm; clear hsm
  have hp2 := ht.lt
  have HC2 : Hid (Chg No w w2) := (HC1.out.andThen hc fun b hb h => by have : b = p := h; omega)
  have HPA := Lib.hid (fun o => hPA.fresh.keep ((Chg.refl No w2).alloc o))
  have hsz2 := HC2.out.size
  have HT2 := Lib.hid (fun o => ht.keep ((Chg.refl No w2).alloc o))
  have b4 := Blk.made w2 27 #[.slice PA P.costs.length pc, .slice PR P.rows.length pd]
  have HB4 := Lib.hid b4
  clear b4 hP hPA ht hc HT HC1
  go_wp2_with fail
  refine (sorted_any p P.costs.length _ (HT2.out _) (by omega)).mono ?_
  rintro e w3 ⟨v, rfl, ⟨st, ho, hprops⟩, ht, hc⟩
  have hst : st.length ≤ 1000 := by have := hprops.2; omega
  have HPROPS := Lib.hid hprops; clear hprops
  have hp3 := ht.lt
  have hs3 := hc.size
  simp only [World.size_alloc] at hs3
  have HC3 : Hid (Chg No w w3) := (HC2.out.alloc _).andThen hc fun b hb h => by have : b = p := h; omega
  have HPA3 := Lib.hid ((HPA.out _).chg hc fun _ _ h => .inl h)
  have HB43 := Lib.hid (HB4.out.chg hc (fun h => by have : w2.heap.size = p := h; omega))
  have HO3 := Lib.hid ho
  have HT3 := Lib.hid ht
  clear ho ht hc HPA HT2 HB4 HC2
  go_wp2_with fail
  refine (one_any p _ _ HT3.out (by omega) (by omega)).mono ?_
  rintro e w4 ⟨v1, rfl, ⟨b, rfl⟩, ht, hc⟩
  have HC4 : Hid (Chg No w w4) := HC3.out.andThen hc fun b hb h => by have : b = p := h; omega
  have HPA4 := Lib.hid (HPA3.out.chg hc fun _ _ h => .inl h)
  have HB44 := Lib.hid (HB43.out.chg hc (fun h => by have : w2.heap.size = p := h; omega))
  have HO4 := Lib.hid (HO3.out.int_chg hc (own_apart HO3.out (by simp; omega)))
  have HT4 := Lib.hid ht
  have hs4 := hc.size
  have hp4 := ht.lt
  clear ht hc HPA3 HB43 HO3 HT3 HC3
  cases b with
  | false =>
    obtain ⟨U, uc, rfl, -, hu⟩ := HO4.out.ints (Y := Is p) (own_apart HO4.out (by simp; omega))
    have HU := Lib.hid hu; clear hu
    have k0 : w4.cell? ⟨w2.heap.size, 0, none⟩ = some (.slice PA P.costs.length pc) := by rw [HB44.out.cell]; rfl
    have k1 : w4.cell? ⟨w2.heap.size, 1, none⟩ = some (.slice PR P.rows.length pd) := by rw [HB44.out.cell]; rfl
    have HX := Lib.hid (Chg.refl No w4)
    go_wp2_with fail
    refine (cost_any _ _ _ _ _ _ _ _ _ P st _ (HPA4.out.keep HX.out) (HU.out.keep _ HX.out) (by omega) hr (by omega)).mono ?_
    rintro e wa ⟨rfl, hcv⟩
    have hx := HX.out.trans hcv
    have k0wa : wa.cell? ⟨w2.heap.size, 0, none⟩ = some (.slice PA P.costs.length pc) := by rw [(HB44.out.chg hx no_).cell]; rfl
    have k1wa : wa.cell? ⟨w2.heap.size, 1, none⟩ = some (.slice PR P.rows.length pd) := by rw [(HB44.out.chg hx no_).cell]; rfl
    clear HX hcv
    have HX := Lib.hid hx; clear hx
    go_wp2_with fail
    refine (costR_any _ _ _ _ _ _ _ _ _ P st _ (HPA4.out.keep HX.out) (HU.out.keep _ HX.out) (by omega) hr (by omega)).mono ?_
    rintro e wb ⟨rfl, hcv⟩
    have hx := HX.out.trans hcv
    have k0wb : wb.cell? ⟨w2.heap.size, 0, none⟩ = some (.slice PA P.costs.length pc) := by rw [(HB44.out.chg hx no_).cell]; rfl
    have k1wb : wb.cell? ⟨w2.heap.size, 1, none⟩ = some (.slice PR P.rows.length pd) := by rw [(HB44.out.chg hx no_).cell]; rfl
    clear HX hcv
    have HX := Lib.hid hx; clear hx
    go_wp2_with fail
    refine (cost_any _ _ _ _ _ _ _ _ _ P chosen _ (HPA4.out.keep HX.out) ((HCHO.out.keep _ HC4.out).keep _ HX.out) (by omega) hr (by omega)).mono ?_
    rintro e wc ⟨rfl, hcv⟩
    have hx := HX.out.trans hcv
    have k0wc : wc.cell? ⟨w2.heap.size, 0, none⟩ = some (.slice PA P.costs.length pc) := by rw [(HB44.out.chg hx no_).cell]; rfl
    have k1wc : wc.cell? ⟨w2.heap.size, 1, none⟩ = some (.slice PR P.rows.length pd) := by rw [(HB44.out.chg hx no_).cell]; rfl
    clear HX hcv
    have HX := Lib.hid hx; clear hx
    go_wp2_with fail
    refine (costR_any _ _ _ _ _ _ _ _ _ P chosen _ (HPA4.out.keep HX.out) ((HCHO.out.keep _ HC4.out).keep _ HX.out) (by omega) hr (by omega)).mono ?_
    rintro e wd ⟨rfl, hcv⟩
    have hx := HX.out.trans hcv
    have k0wd : wd.cell? ⟨w2.heap.size, 0, none⟩ = some (.slice PA P.costs.length pc) := by rw [(HB44.out.chg hx no_).cell]; rfl
    have k1wd : wd.cell? ⟨w2.heap.size, 1, none⟩ = some (.slice PR P.rows.length pd) := by rw [(HB44.out.chg hx no_).cell]; rfl
    clear HX hcv
    have HX := Lib.hid hx; clear hx
    clear k0 k1 k0wa k1wa k0wb k1wb k0wc k1wc
    generalize costF P st = x1 at *
    generalize costOk P st = x2 at *
    generalize costF P chosen = x3 at *
    generalize costOk P chosen = x4 at *
    have e1 : (x1 == x1) = true := by simp
    have e2 : (x2 == x2) = true := by simp
    have e3 : (x3 == x3) = true := by simp
    have e4 : (x4 == x4) = true := by simp
    have e5 : (validB P == validB P) = true := by simp
    have e6 : (meetsB P st == meetsB P st) = true := by simp
    have e7 : (meetsB P chosen == meetsB P chosen) = true := by simp
    have tok1 : True := trivial
    have tok2 : True := trivial
    go_wp2_with fail
    have HX1 := Lib.hid HX.out.drew
    clear HX
    have HX := HX1
    clear HX1
    go_region_held3 (fun W' => W'.cell? ⟨w2.heap.size, 0, none⟩ = some (.slice PA P.costs.length pc) ∧ W'.cell? ⟨w2.heap.size, 1, none⟩ = some (.slice PR P.rows.length pd)) (first | go_keep | exact ⟨by assumption, by assumption⟩)
      (first
        | (go_at_call 32; refine (valid_any _ _ _ _ _ _ P _ (HPA4.out.keep HX.out) (by omega) hr).mono ?_; rintro e wv ⟨rfl, hcv⟩; have hx := HX.out.trans hcv; have k0v : wv.cell? ⟨w2.heap.size, 0, none⟩ = some (.slice PA P.costs.length pc) := (by rw [(HB44.out.chg hx no_).cell]; rfl); have k1v : wv.cell? ⟨w2.heap.size, 1, none⟩ = some (.slice PR P.rows.length pd) := (by rw [(HB44.out.chg hx no_).cell]; rfl); clear HX hcv; have HX := Lib.hid hx; clear hx)
        | (go_at_call 33; refine (validR_any _ _ _ _ _ _ P _ (HPA4.out.keep HX.out) (by omega) hr).mono ?_; rintro e wv ⟨rfl, hcv⟩; have hx := HX.out.trans hcv; have k0v : wv.cell? ⟨w2.heap.size, 0, none⟩ = some (.slice PA P.costs.length pc) := (by rw [(HB44.out.chg hx no_).cell]; rfl); have k1v : wv.cell? ⟨w2.heap.size, 1, none⟩ = some (.slice PR P.rows.length pd) := (by rw [(HB44.out.chg hx no_).cell]; rfl); clear HX hcv; have HX := Lib.hid hx; clear hx)
        | (go_at_call 26; have _t := tok1; refine (meets_any _ _ _ _ _ _ _ _ _ P st _ (HPA4.out.keep HX.out) (HU.out.keep _ HX.out) (by omega) hr (by omega)).mono ?_; rintro e wv ⟨rfl, hcv⟩; clear tok1; have hx := HX.out.trans hcv; have k0v : wv.cell? ⟨w2.heap.size, 0, none⟩ = some (.slice PA P.costs.length pc) := (by rw [(HB44.out.chg hx no_).cell]; rfl); have k1v : wv.cell? ⟨w2.heap.size, 1, none⟩ = some (.slice PR P.rows.length pd) := (by rw [(HB44.out.chg hx no_).cell]; rfl); clear HX hcv; have HX := Lib.hid hx; clear hx)
        | (go_at_call 26; refine (meets_any _ _ _ _ _ _ _ _ _ P chosen _ (HPA4.out.keep HX.out) ((HCHO.out.keep _ HC4.out).keep _ HX.out) (by omega) hr (by omega)).mono ?_; rintro e wv ⟨rfl, hcv⟩; have hx := HX.out.trans hcv; have k0v : wv.cell? ⟨w2.heap.size, 0, none⟩ = some (.slice PA P.costs.length pc) := (by rw [(HB44.out.chg hx no_).cell]; rfl); have k1v : wv.cell? ⟨w2.heap.size, 1, none⟩ = some (.slice PR P.rows.length pd) := (by rw [(HB44.out.chg hx no_).cell]; rfl); clear HX hcv; have HX := Lib.hid hx; clear hx)
        | (go_at_call 34; have _t := tok2; refine (meetsR_any _ _ _ _ _ _ _ _ _ P st _ (HPA4.out.keep HX.out) (HU.out.keep _ HX.out) (by omega) hr (by omega)).mono ?_; rintro e wv ⟨rfl, hcv⟩; clear tok2; have hx := HX.out.trans hcv; have k0v : wv.cell? ⟨w2.heap.size, 0, none⟩ = some (.slice PA P.costs.length pc) := (by rw [(HB44.out.chg hx no_).cell]; rfl); have k1v : wv.cell? ⟨w2.heap.size, 1, none⟩ = some (.slice PR P.rows.length pd) := (by rw [(HB44.out.chg hx no_).cell]; rfl); clear HX hcv; have HX := Lib.hid hx; clear hx)
        | (go_at_call 34; refine (meetsR_any _ _ _ _ _ _ _ _ _ P chosen _ (HPA4.out.keep HX.out) ((HCHO.out.keep _ HC4.out).keep _ HX.out) (by omega) hr (by omega)).mono ?_; rintro e wv ⟨rfl, hcv⟩; have hx := HX.out.trans hcv; have k0v : wv.cell? ⟨w2.heap.size, 0, none⟩ = some (.slice PA P.costs.length pc) := (by rw [(HB44.out.chg hx no_).cell]; rfl); have k1v : wv.cell? ⟨w2.heap.size, 1, none⟩ = some (.slice PR P.rows.length pd) := (by rw [(HB44.out.chg hx no_).cell]; rfl); clear HX hcv; have HX := Lib.hid hx; clear hx)
        | (go_at_call 18; refine (awake_any _).mono ?_; rintro e wv ⟨rfl, hcv⟩; have hx := HX.out.trans hcv; have k0v : wv.cell? ⟨w2.heap.size, 0, none⟩ = some (.slice PA P.costs.length pc) := (by rw [(HB44.out.chg hx no_).cell]; rfl); have k1v : wv.cell? ⟨w2.heap.size, 1, none⟩ = some (.slice PR P.rows.length pd) := (by rw [(HB44.out.chg hx no_).cell]; rfl); clear HX hcv; have HX := Lib.hid hx; clear hx))
    all_goals
      go_wp2_with fail
      go_ret
      exact ⟨rfl, HC4.out.trans HX.out⟩
  | true =>
    go_wp2_with fail
    refine (next_any p _ _ HT4.out (by omega)).mono ?_
    rintro e w5 ⟨v1, rfl, ⟨x, rfl, hx1, hx2⟩, ht, hc⟩
    clear hx1 hx2
    have hs5 := hc.size
    have HC5 : Hid (Chg No w w5) := HC4.out.andThen hc fun b hb h => by have : b = p := h; omega
    have HPA5 := Lib.hid (HPA4.out.chg hc fun _ _ h => .inl h)
    have HB45 := Lib.hid (HB44.out.chg hc (fun h => by have : w2.heap.size = p := h; omega))
    have HO5 := Lib.hid (fun o => HO4.out.int_chg (hc.alloc o) (own_apart HO4.out (by simp; omega)))
    clear ht hc
    have HBS : Hid (∀ o, (w2.alloc (.cells #[.slice PA P.costs.length pc, .slice PR P.rows.length pd] 27)).heap.size ≤ (w5.alloc o).heap.size) := fun o => by simp only [World.size_alloc]; omega
    have hl3 : st.length ≤ 1000000 := by omega
    have hob := (HO4.out.blk)
    simp only [World.size_alloc] at hob
    have HOB := Lib.hid hob; clear hob
    go_wp2_with (at_builtin; refine wpList_append_rep (r := Rep.int) (v := v) (xs := st) (base := (w2.alloc (.cells #[.slice PA P.costs.length pc, .slice PR P.rows.length pd] 27)).heap.size) (X := No) rfl 22 3 elemInt (.tmp 27) (.tmp 30) rfl rfl (HO5.out _) ⟨w5.heap.size, 0, none⟩ 1 [.int .i64 x] x rfl (cell_one_new _ _ _) rfl hl3 (HBS.out _) ?_; intro A' c' w6 ho6 hc6 hb6; have HO6 := Lib.hid ho6; clear ho6; have HC6 := Lib.hid hc6; clear hc6; clear hb6; have bx := (HB45.out.chg ((Chg.refl No w5).alloc _) no_).chg HC6.out (fun h => by have := HOB.out _ h; omega); have k06 : w6.cell? ⟨w2.heap.size, 0, none⟩ = some (.slice PA P.costs.length pc) := bx.cell 0; have k16 : w6.cell? ⟨w2.heap.size, 1, none⟩ = some (.slice PR P.rows.length pd) := bx.cell 1; clear bx)
    have hob := HOB.out
    have HC56 : Hid (Chg No w w6) := (HC5.out.alloc _).andThen HC6.out fun b hb h => by have := hob b h; omega
    have HPA6 := Lib.hid ((HPA5.out.keep ((Chg.refl No w5).alloc _)).chg HC6.out fun b _ h => .inr (by have := hob b h; omega))
    have HB46 := Lib.hid ((HB45.out.chg ((Chg.refl No w5).alloc _) no_).chg HC6.out (fun h => by have := hob _ h; omega))
    obtain ⟨U, uc, hUe, -, hu⟩ := HO6.out.ints (Y := Is p) (own_apart HO6.out (by simp; omega))
    simp only [List.length_append, List.length_singleton] at hu hUe
    injection hUe with hU1 hU2 hU3
    subst hU1 hU3
    have HU := Lib.hid hu; clear hu hU2
    clear hob
    have k0 : w6.cell? ⟨w2.heap.size, 0, none⟩ = some (.slice PA P.costs.length pc) := by rw [HB46.out.cell]; rfl
    have k1 : w6.cell? ⟨w2.heap.size, 1, none⟩ = some (.slice PR P.rows.length pd) := by rw [HB46.out.cell]; rfl
    have HX := Lib.hid (Chg.refl No w6)
    refine (cost_any _ _ _ _ _ _ _ _ _ P (st ++ [x]) _ (HPA6.out.keep HX.out) (HU.out.keep _ HX.out) (by omega) hr (by omega)).mono ?_
    rintro e wa ⟨rfl, hcv⟩
    have hx := HX.out.trans hcv
    have k0wa : wa.cell? ⟨w2.heap.size, 0, none⟩ = some (.slice PA P.costs.length pc) := by rw [(HB46.out.chg hx no_).cell]; rfl
    have k1wa : wa.cell? ⟨w2.heap.size, 1, none⟩ = some (.slice PR P.rows.length pd) := by rw [(HB46.out.chg hx no_).cell]; rfl
    clear HX hcv
    have HX := Lib.hid hx; clear hx
    go_wp2_with fail
    refine (costR_any _ _ _ _ _ _ _ _ _ P (st ++ [x]) _ (HPA6.out.keep HX.out) (HU.out.keep _ HX.out) (by omega) hr (by omega)).mono ?_
    rintro e wb ⟨rfl, hcv⟩
    have hx := HX.out.trans hcv
    have k0wb : wb.cell? ⟨w2.heap.size, 0, none⟩ = some (.slice PA P.costs.length pc) := by rw [(HB46.out.chg hx no_).cell]; rfl
    have k1wb : wb.cell? ⟨w2.heap.size, 1, none⟩ = some (.slice PR P.rows.length pd) := by rw [(HB46.out.chg hx no_).cell]; rfl
    clear HX hcv
    have HX := Lib.hid hx; clear hx
    go_wp2_with fail
    refine (cost_any _ _ _ _ _ _ _ _ _ P chosen _ (HPA6.out.keep HX.out) ((HCHO.out.keep _ HC56.out).keep _ HX.out) (by omega) hr (by omega)).mono ?_
    rintro e wc ⟨rfl, hcv⟩
    have hx := HX.out.trans hcv
    have k0wc : wc.cell? ⟨w2.heap.size, 0, none⟩ = some (.slice PA P.costs.length pc) := by rw [(HB46.out.chg hx no_).cell]; rfl
    have k1wc : wc.cell? ⟨w2.heap.size, 1, none⟩ = some (.slice PR P.rows.length pd) := by rw [(HB46.out.chg hx no_).cell]; rfl
    clear HX hcv
    have HX := Lib.hid hx; clear hx
    go_wp2_with fail
    refine (costR_any _ _ _ _ _ _ _ _ _ P chosen _ (HPA6.out.keep HX.out) ((HCHO.out.keep _ HC56.out).keep _ HX.out) (by omega) hr (by omega)).mono ?_
    rintro e wd ⟨rfl, hcv⟩
    have hx := HX.out.trans hcv
    have k0wd : wd.cell? ⟨w2.heap.size, 0, none⟩ = some (.slice PA P.costs.length pc) := by rw [(HB46.out.chg hx no_).cell]; rfl
    have k1wd : wd.cell? ⟨w2.heap.size, 1, none⟩ = some (.slice PR P.rows.length pd) := by rw [(HB46.out.chg hx no_).cell]; rfl
    clear HX hcv
    have HX := Lib.hid hx; clear hx
    clear k0 k1 k0wa k1wa k0wb k1wb k0wc k1wc
    generalize costF P (st ++ [x]) = x1 at *
    generalize costOk P (st ++ [x]) = x2 at *
    generalize costF P chosen = x3 at *
    generalize costOk P chosen = x4 at *
    have e1 : (x1 == x1) = true := by simp
    have e2 : (x2 == x2) = true := by simp
    have e3 : (x3 == x3) = true := by simp
    have e4 : (x4 == x4) = true := by simp
    have e5 : (validB P == validB P) = true := by simp
    have e6 : (meetsB P (st ++ [x]) == meetsB P (st ++ [x])) = true := by simp
    have e7 : (meetsB P chosen == meetsB P chosen) = true := by simp
    have tok1 : True := trivial
    have tok2 : True := trivial
    go_wp2_with fail
    have HX1 := Lib.hid HX.out.drew
    clear HX
    have HX := HX1
    clear HX1
    go_region_held3 (fun W' => W'.cell? ⟨w2.heap.size, 0, none⟩ = some (.slice PA P.costs.length pc) ∧ W'.cell? ⟨w2.heap.size, 1, none⟩ = some (.slice PR P.rows.length pd)) (first | go_keep | exact ⟨by assumption, by assumption⟩)
      (first
        | (go_at_call 32; refine (valid_any _ _ _ _ _ _ P _ (HPA6.out.keep HX.out) (by omega) hr).mono ?_; rintro e wv ⟨rfl, hcv⟩; have hx := HX.out.trans hcv; have k0v : wv.cell? ⟨w2.heap.size, 0, none⟩ = some (.slice PA P.costs.length pc) := (by rw [(HB46.out.chg hx no_).cell]; rfl); have k1v : wv.cell? ⟨w2.heap.size, 1, none⟩ = some (.slice PR P.rows.length pd) := (by rw [(HB46.out.chg hx no_).cell]; rfl); clear HX hcv; have HX := Lib.hid hx; clear hx)
        | (go_at_call 33; refine (validR_any _ _ _ _ _ _ P _ (HPA6.out.keep HX.out) (by omega) hr).mono ?_; rintro e wv ⟨rfl, hcv⟩; have hx := HX.out.trans hcv; have k0v : wv.cell? ⟨w2.heap.size, 0, none⟩ = some (.slice PA P.costs.length pc) := (by rw [(HB46.out.chg hx no_).cell]; rfl); have k1v : wv.cell? ⟨w2.heap.size, 1, none⟩ = some (.slice PR P.rows.length pd) := (by rw [(HB46.out.chg hx no_).cell]; rfl); clear HX hcv; have HX := Lib.hid hx; clear hx)
        | (go_at_call 26; have _t := tok1; refine (meets_any _ _ _ _ _ _ _ _ _ P (st ++ [x]) _ (HPA6.out.keep HX.out) (HU.out.keep _ HX.out) (by omega) hr (by omega)).mono ?_; rintro e wv ⟨rfl, hcv⟩; clear tok1; have hx := HX.out.trans hcv; have k0v : wv.cell? ⟨w2.heap.size, 0, none⟩ = some (.slice PA P.costs.length pc) := (by rw [(HB46.out.chg hx no_).cell]; rfl); have k1v : wv.cell? ⟨w2.heap.size, 1, none⟩ = some (.slice PR P.rows.length pd) := (by rw [(HB46.out.chg hx no_).cell]; rfl); clear HX hcv; have HX := Lib.hid hx; clear hx)
        | (go_at_call 26; refine (meets_any _ _ _ _ _ _ _ _ _ P chosen _ (HPA6.out.keep HX.out) ((HCHO.out.keep _ HC56.out).keep _ HX.out) (by omega) hr (by omega)).mono ?_; rintro e wv ⟨rfl, hcv⟩; have hx := HX.out.trans hcv; have k0v : wv.cell? ⟨w2.heap.size, 0, none⟩ = some (.slice PA P.costs.length pc) := (by rw [(HB46.out.chg hx no_).cell]; rfl); have k1v : wv.cell? ⟨w2.heap.size, 1, none⟩ = some (.slice PR P.rows.length pd) := (by rw [(HB46.out.chg hx no_).cell]; rfl); clear HX hcv; have HX := Lib.hid hx; clear hx)
        | (go_at_call 34; have _t := tok2; refine (meetsR_any _ _ _ _ _ _ _ _ _ P (st ++ [x]) _ (HPA6.out.keep HX.out) (HU.out.keep _ HX.out) (by omega) hr (by omega)).mono ?_; rintro e wv ⟨rfl, hcv⟩; clear tok2; have hx := HX.out.trans hcv; have k0v : wv.cell? ⟨w2.heap.size, 0, none⟩ = some (.slice PA P.costs.length pc) := (by rw [(HB46.out.chg hx no_).cell]; rfl); have k1v : wv.cell? ⟨w2.heap.size, 1, none⟩ = some (.slice PR P.rows.length pd) := (by rw [(HB46.out.chg hx no_).cell]; rfl); clear HX hcv; have HX := Lib.hid hx; clear hx)
        | (go_at_call 34; refine (meetsR_any _ _ _ _ _ _ _ _ _ P chosen _ (HPA6.out.keep HX.out) ((HCHO.out.keep _ HC56.out).keep _ HX.out) (by omega) hr (by omega)).mono ?_; rintro e wv ⟨rfl, hcv⟩; have hx := HX.out.trans hcv; have k0v : wv.cell? ⟨w2.heap.size, 0, none⟩ = some (.slice PA P.costs.length pc) := (by rw [(HB46.out.chg hx no_).cell]; rfl); have k1v : wv.cell? ⟨w2.heap.size, 1, none⟩ = some (.slice PR P.rows.length pd) := (by rw [(HB46.out.chg hx no_).cell]; rfl); clear HX hcv; have HX := Lib.hid hx; clear hx)
        | (go_at_call 18; refine (awake_any _).mono ?_; rintro e wv ⟨rfl, hcv⟩; have hx := HX.out.trans hcv; have k0v : wv.cell? ⟨w2.heap.size, 0, none⟩ = some (.slice PA P.costs.length pc) := (by rw [(HB46.out.chg hx no_).cell]; rfl); have k1v : wv.cell? ⟨w2.heap.size, 1, none⟩ = some (.slice PR P.rows.length pd) := (by rw [(HB46.out.chg hx no_).cell]; rfl); clear HX hcv; have HX := Lib.hid hx; clear hx))
    all_goals
      go_wp2_with fail
      go_ret
      exact ⟨rfl, HC56.out.trans HX.out⟩
end Go.Proofs.Ytipelkbdonfkoaa
