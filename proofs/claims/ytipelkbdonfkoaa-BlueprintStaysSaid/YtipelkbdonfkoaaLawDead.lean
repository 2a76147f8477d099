/- The law BlueprintDead: it returns true. -/
import Derived.Test.YtipelkbdonfkoaaAwake08
import Derived.Test.YtipelkbdonfkoaaGen
namespace Go.Proofs.Ytipelkbdonfkoaa
set_option linter.unusedVariables false
open Go.RowKit

theorem Own.ints {w : World} {X Y : Nat → Prop} {B : Nat} {e : TypeId} {v : Value} {xs : List Int} (h : Own Rep.int w X B e v xs) (hv : ∀ k, v.ownBlock = some k → ¬ Y k) : ∃ A c, v = .slice A xs.length c ∧ c ≤ maxLen ∧ Ints w Y A xs.length c xs :=
  h.int_any.slc (X := Y) (fun _ _ h => h) hv

set_option maxRecDepth 100000 in
set_option maxHeartbeats 4000000 in
theorem law_dead (A : Option Addr) (n c : Nat) (xs : List Int) (w : World) (h : Ints w No A n c xs) (hm : c ≤ maxLen) :
    Calls Try.prog 4 #[.slice A n c] w (BoolPost true w) := by
  have HH := Lib.hid h; clear h
  go_enter Try.func4, Try.ntmps4
  go_wp2_with fail
  refine (new_any A n c xs _ HH.out hm).mono ?_
  rintro e w1 ⟨p, rfl, hp, ht, hc⟩
  have HT := Lib.hid ht; clear ht
  have HC1 := Lib.hid hc; clear hc
  go_wp2_with fail
  refine (program_any p 6 6 _ HT.out (by omega) (by omega) (by omega)).mono ?_
  rintro e w2 ⟨v, rfl, ⟨P, hP, hsm, hgood⟩, ht, hc⟩
  obtain ⟨PA, pc, PR, pd, rfl, hPA⟩ := hP.open
  have hn : P.costs.length ≤ 1000 := by have := hsm.1; omega
  have hr : P.rows.length ≤ 1000000 := by have := hsm.2.1; omega
  have HGOOD := Lib.hid hgood; clear hgood
  have HSM := Lib.hid hsm; clear hsm
  have hp2 := ht.lt
  have HC2 : Hid (Chg No w w2) := (HC1.out.andThen hc fun b hb h => by have : b = p := h; omega)
  have HPA := Lib.hid (fun o => hPA.fresh.keep ((Chg.refl No w2).alloc o))
  have hsz2 := HC2.out.size
  have HT2 := Lib.hid (fun o => ht.keep ((Chg.refl No w2).alloc o))
  have b4 := Blk.made w2 27 #[.slice PA P.costs.length pc, .slice PR P.rows.length pd]
  have HB4 := Lib.hid b4
  clear b4 hP hPA ht hc HT HC1
  go_wp2_with fail
  refine (state_any p P.costs.length _ (HT2.out _) (by omega)).mono ?_
  rintro e w3 ⟨v, rfl, ⟨st, ho, hprops⟩, ht, hc⟩
  have hst : st.length ≤ 1000 := by have := hprops.1; omega
  have HPROPS := Lib.hid hprops; clear hprops
  have hp3 := ht.lt
  have hs3 := hc.size
  simp only [World.size_alloc] at hs3
  have HC3 : Hid (Chg No w w3) := (HC2.out.alloc _).andThen hc fun b hb h => by have : b = p := h; omega
  have HPA3 := Lib.hid ((HPA.out _).chg hc fun _ _ h => .inl h)
  have HB43 := Lib.hid (HB4.out.chg hc (fun h => by have : w2.heap.size = p := h; omega))
  have HO3 := Lib.hid ho
  have HT3 := Lib.hid ht
  clear ho ht hc HPA HT2 HB4 HC2
  go_wp2_with fail
  refine (one_any p _ _ HT3.out (by omega) (by omega)).mono ?_
  rintro e w4 ⟨v1, rfl, ⟨b, rfl⟩, ht, hc⟩
  have HC4 : Hid (Chg No w w4) := HC3.out.andThen hc fun b hb h => by have : b = p := h; omega
  have HPA4 := Lib.hid (HPA3.out.chg hc fun _ _ h => .inl h)
  have HB44 := Lib.hid (HB43.out.chg hc (fun h => by have : w2.heap.size = p := h; omega))
  have HO4 := Lib.hid (HO3.out.int_chg hc (own_apart HO3.out (by simp; omega)))
  have HT4 := Lib.hid ht
  have hs4 := hc.size
  have hp4 := ht.lt
  clear ht hc HPA3 HB43 HO3 HT3 HC3
  cases b with
  | false =>
    obtain ⟨U, uc, rfl, -, hu⟩ := HO4.out.ints (Y := Is p) (own_apart HO4.out (by simp; omega))
    have HU := Lib.hid hu; clear hu
    have k0 : w4.cell? ⟨w2.heap.size, 0, none⟩ = some (.slice PA P.costs.length pc) := by rw [HB44.out.cell]; rfl
    have k1 : w4.cell? ⟨w2.heap.size, 1, none⟩ = some (.slice PR P.rows.length pd) := by rw [HB44.out.cell]; rfl
    go_wp2_with fail
    go_region_law (first
      | (go_simp; go_at_call 20; refine (dead_any _ _ _ _ _ _ _ _ _ P st _ (HPA4.out.keep (Chg.refl No w4).drew) (HU.out.keep _ (Chg.refl No w4).drew) (by omega) hr (by omega)).mono ?_; rintro e w7 ⟨rfl, hc7⟩
         have hc7' : Chg No w4 w7 := (Chg.refl No w4).drew.trans hc7
         have k07 : w7.cell? ⟨w2.heap.size, 0, none⟩ = some (.slice PA P.costs.length pc) := by rw [(HB44.out.chg hc7' no_).cell]; rfl
         have k17 : w7.cell? ⟨w2.heap.size, 1, none⟩ = some (.slice PR P.rows.length pd) := by rw [(HB44.out.chg hc7' no_).cell]; rfl
         have HC7 := Lib.hid hc7'; clear hc7 hc7')
      | (go_simp; go_at_call 21; refine (deadR_any _ _ _ _ _ _ _ _ _ P st _ (HPA4.out.keep HC7.out) (HU.out.keep _ HC7.out) (by omega) hr (by omega)).mono ?_; rintro e w8 ⟨rfl, hc8⟩; have HC8 := Lib.hid (HC7.out.trans hc8); clear hc8)
      | (go_simp; go_at_call 18; refine (awake_any _).mono ?_; rintro e w9 ⟨rfl, hc9⟩; have HC9 := Lib.hid (HC8.out.trans hc9); clear hc9))
    all_goals
      go_wp2_with fail
      go_ret
      exact ⟨rfl, HC4.out.trans HC9.out⟩
  | true =>
    go_wp2_with fail
    refine (range_any p _ _ _ HT4.out (by omega) (by omega) (by omega) (by omega)).mono ?_
    rintro e w5 ⟨v1, rfl, ⟨x, rfl, hx1, hx2⟩, ht, hc⟩
    clear hx1 hx2
    have hs5 := hc.size
    have HC5 : Hid (Chg No w w5) := HC4.out.andThen hc fun b hb h => by have : b = p := h; omega
    have HPA5 := Lib.hid (HPA4.out.chg hc fun _ _ h => .inl h)
    have HB45 := Lib.hid (HB44.out.chg hc (fun h => by have : w2.heap.size = p := h; omega))
    have HO5 := Lib.hid (fun o => HO4.out.int_chg (hc.alloc o) (own_apart HO4.out (by simp; omega)))
    clear ht hc
    have HBS : Hid (∀ o, (w2.alloc (.cells #[.slice PA P.costs.length pc, .slice PR P.rows.length pd] 27)).heap.size ≤ (w5.alloc o).heap.size) := fun o => by simp only [World.size_alloc]; omega
    have hl3 : st.length ≤ 1000000 := by omega
    have hob := (HO4.out.blk)
    simp only [World.size_alloc] at hob
    have HOB := Lib.hid hob; clear hob
    go_wp2_with (at_builtin; refine wpList_append_rep (r := Rep.int) (v := v) (xs := st) (base := (w2.alloc (.cells #[.slice PA P.costs.length pc, .slice PR P.rows.length pd] 27)).heap.size) (X := No) rfl 22 3 elemInt (.tmp 17) (.tmp 20) rfl rfl (HO5.out _) ⟨w5.heap.size, 0, none⟩ 1 [.int .i64 x] x rfl (cell_one_new _ _ _) rfl hl3 (HBS.out _) ?_; intro A' c' w6 ho6 hc6 hb6; have HO6 := Lib.hid ho6; clear ho6; have HC6 := Lib.hid hc6; clear hc6; clear hb6)
    have hob := HOB.out
    have HC56 : Hid (Chg No w w6) := (HC5.out.alloc _).andThen HC6.out fun b hb h => by have := hob b h; omega
    have HPA6 := Lib.hid ((HPA5.out.keep ((Chg.refl No w5).alloc _)).chg HC6.out fun b _ h => .inr (by have := hob b h; omega))
    have HB46 := Lib.hid ((HB45.out.chg ((Chg.refl No w5).alloc _) no_).chg HC6.out (fun h => by have := hob _ h; omega))
    obtain ⟨U, uc, hUe, -, hu⟩ := HO6.out.ints (Y := Is p) (own_apart HO6.out (by simp; omega))
    simp only [List.length_append, List.length_singleton] at hu hUe
    injection hUe with hU1 hU2 hU3
    subst hU1 hU3
    have HU := Lib.hid hu; clear hu hU2
    clear hob
    have k0 : w6.cell? ⟨w2.heap.size, 0, none⟩ = some (.slice PA P.costs.length pc) := by rw [HB46.out.cell]; rfl
    have k1 : w6.cell? ⟨w2.heap.size, 1, none⟩ = some (.slice PR P.rows.length pd) := by rw [HB46.out.cell]; rfl
    go_wp2_with fail
    go_region_law (first
      | (go_simp; go_at_call 20; refine (dead_any _ _ _ _ _ _ _ _ _ P (st ++ [x]) _ (HPA6.out.keep (Chg.refl No w6).drew) (HU.out.keep _ (Chg.refl No w6).drew) (by omega) hr (by omega)).mono ?_; rintro e w7 ⟨rfl, hc7⟩
         have hc7' : Chg No w6 w7 := (Chg.refl No w6).drew.trans hc7
         have k07 : w7.cell? ⟨w2.heap.size, 0, none⟩ = some (.slice PA P.costs.length pc) := by rw [(HB46.out.chg hc7' no_).cell]; rfl
         have k17 : w7.cell? ⟨w2.heap.size, 1, none⟩ = some (.slice PR P.rows.length pd) := by rw [(HB46.out.chg hc7' no_).cell]; rfl
         have HC7 := Lib.hid hc7'; clear hc7 hc7')
      | (go_simp; go_at_call 21; refine (deadR_any _ _ _ _ _ _ _ _ _ P (st ++ [x]) _ (HPA6.out.keep HC7.out) (HU.out.keep _ HC7.out) (by omega) hr (by omega)).mono ?_; rintro e w8 ⟨rfl, hc8⟩; have HC8 := Lib.hid (HC7.out.trans hc8); clear hc8)
      | (go_simp; go_at_call 18; refine (awake_any _).mono ?_; rintro e w9 ⟨rfl, hc9⟩; have HC9 := Lib.hid (HC8.out.trans hc9); clear hc9))
    all_goals
      go_wp2_with fail
      go_ret
      exact ⟨rfl, HC56.out.trans HC9.out⟩
end Go.Proofs.Ytipelkbdonfkoaa
