/- Several texts in one: GL11x, GL11z, GL11p, GL11m, GL11y, GBr4. -/
import Derived.Test.YtiionjpinainlaaW5
import Derived.Test.YtiionjpinainlaaW4
import Derived.ChangeSlices
/- Layer 11: Common, of the program and of the reference. -/
section
namespace Go.Proofs.Ytiionjpinainlaa
set_option linter.unusedVariables false
set_option linter.unusedSimpArgs false
set_option linter.unnecessarySimpa false
set_option linter.unusedSectionVars false
set_option maxRecDepth 10000
open Go.RowKit
def plGL11x_0 : Plan := (.take 0 (.take 1 (.take 2 (.take 3 (.take 4 (.take 5 (.take 6 (.take 7 (.take 8 (.take 9 .done))))))))))
def plGL11x_1 : Plan := (.take 0 (.take 1 (.take 2 (.take 4 (.take 5 (.take 6 (.alt 3 (.alt 7 (.take 8 (.take 9 .done)) .stop) (.alt 7 (.alt 3 (.take 8 (.take 9 .done)) .stop) .stop))))))))
def plGL11x_2 : Plan := (.take 0 (.take 1 (.take 2 (.take 3 (.take 4 (.take 5 (.take 6 (.take 7 (.take 8 (.take 9 (.take 10 (.take 11 (.take 12 (.take 13 (.alt 14 (.alt 15 (.take 16 .done) .stop) .stop)))))))))))))))
def plGL11x_3 : Plan := (.take 0 (.take 1 (.take 2 (.take 3 (.take 5 (.take 7 (.take 8 (.take 9 (.take 11 (.alt 4 (.take 6 (.alt 10 (.take 12 (.take 13 (.alt 14 (.alt 15 (.take 16 .done) .stop) .stop))) .stop)) (.alt 10 (.take 12 (.alt 4 (.take 6 (.take 13 (.alt 14 (.alt 15 (.take 16 .done) .stop) .stop))) .stop)) .stop)))))))))))
def plGL11x_4 : Plan := (.take 0 (.take 1 (.take 2 (.take 3 (.take 4 (.take 5 (.take 7 (.take 8 (.take 9 (.take 10 (.take 11 (.take 12 (.alt 6 (.alt 13 (.take 14 (.take 15 .done)) .stop) .stop)))))))))))))
def plGL11x_5 : Plan := (.take 0 (.take 1 (.take 2 (.take 3 (.take 4 (.take 7 (.take 8 (.take 9 (.take 10 (.take 11 (.alt 5 (.alt 6 (.alt 12 (.alt 13 (.take 14 (.take 15 .done)) .stop) .stop) (.alt 12 (.alt 6 (.alt 13 (.take 14 (.take 15 .done)) .stop) .stop) .stop)) (.alt 12 (.alt 5 (.alt 6 (.alt 13 (.take 14 (.take 15 .done)) .stop) .stop) .stop) .stop))))))))))))
def partsN (items : List Itm) (a : Int) : Nat := match items[a.toNat]? with | some it => it.parts.length | none => 0
def pairsK (items : List Itm) (x y : List Int) (i : Nat) (a : Int) (n : Nat) : List (Int × Int) := (List.range n).map fun k : Nat => (offAt items x i + k, offAt items y (y.idxOf a) + k)
def pairsAt (items : List Itm) (x y : List Int) (i : Nat) : List (Int × Int) := match x[i]? with
  | some a => if a ∈ y then pairsK items x y i a (partsN items a) else []
  | none => []
def pairsTo (items : List Itm) (x y : List Int) (i : Nat) : List (Int × Int) := (List.range i).flatMap (pairsAt items x y)
def comL (items : List Itm) (x y : List Int) : List (Int × Int) := if okIB items x = true ∧ okIB items y = true then pairsTo items x y x.length else []
theorem pairsAt_in {items : List Itm} {x y : List Int} {i : Nat} {a : Int} (h : x[i]? = some a) (hm : a ∈ y) : pairsAt items x y i = pairsK items x y i a (partsN items a) := by
  unfold pairsAt; rw [h]; exact if_pos hm
theorem pairsAt_out {items : List Itm} {x y : List Int} {i : Nat} {a : Int} (h : x[i]? = some a) (hm : a ∉ y) : pairsAt items x y i = [] := by
  unfold pairsAt; rw [h]; exact if_neg hm
theorem pairsTo_next {items : List Itm} {x y : List Int} {i : Nat} : pairsTo items x y (i + 1) = pairsTo items x y i ++ pairsAt items x y i := by
  unfold pairsTo; rw [List.range_succ, List.flatMap_append]; simp
theorem pairsK_next {items : List Itm} {x y : List Int} {i n : Nat} {a : Int} : pairsK items x y i a (n + 1) = pairsK items x y i a n ++ [(offAt items x i + n, offAt items y (y.idxOf a) + n)] := by
  unfold pairsK; rw [List.range_succ, List.map_append]; rfl
theorem pairs_snoc {items : List Itm} {x y : List Int} {i n : Nat} {a : Int} {l : List (Int × Int)} : (l ++ pairsK items x y i a (n + 1)).map encRef = (l ++ pairsK items x y i a n).map encRef ++ [[.int .i64 (offAt items x i + n), .int .i64 (offAt items y (y.idxOf a) + n)]] := by
  rw [pairsK_next, ← List.append_assoc, List.map_append]; rfl
theorem partsN_le {items : List Itm} (hs : ∀ x ∈ items, ItmS x) (a : Int) : partsN items a ≤ 1000 := by
  unfold partsN
  split
  · next it h => exact (hs it (List.mem_of_getElem? h)).2.1
  · omega
theorem pairsTo_len {items : List Itm} (hs : ∀ x ∈ items, ItmS x) {x y : List Int} : ∀ i, (pairsTo items x y i).length ≤ 1000 * i
  | 0 => by simp [pairsTo]
  | i + 1 => by
    have ih := pairsTo_len hs (x := x) (y := y) i
    have h : (pairsAt items x y i).length ≤ 1000 := by
      unfold pairsAt
      split
      · split
        · have := partsN_le hs (by assumption); simpa [pairsK] using this
        · simp
      · simp
    rw [pairsTo_next, List.length_append]; omega
theorem idxOf_at {y : List Int} {n j : Nat} {a : Int} (h : choiceB y n = true) (hj : y[j]? = some a) : y.idxOf a = j := by
  have hm := List.mem_of_getElem? hj
  have hl := List.idxOf_lt_length_iff.2 hm
  have he : y[y.idxOf a]? = some a := by rw [List.getElem?_eq_getElem hl]; simp
  rcases Nat.lt_trichotomy (y.idxOf a) j with h1 | h1 | h1
  · have := choice_lt h he hj h1; omega
  · exact h1
  · have := choice_lt h hj he h1; omega
theorem ok_choice {items : List Itm} {ch : List Int} (h : okIB items ch = true) : choiceB ch items.length = true := by
  unfold okIB at h
  rw [Bool.and_eq_true] at h
  exact h.1
theorem offL_at {items : List Itm} {ch : List Int} {i : Nat} (h : i < ch.length) : (offL items ch)[i]? = some (offAt items ch i) := by
  rw [offL, List.getElem?_map, List.getElem?_range h]; rfl
theorem not_in {y : List Int} {n j : Nat} {a b : Int} (h : choiceB y n = true) (hb : y[j]? = some b) (hab : a < b) (hlow : ∀ j' c, j' < j → y[j']? = some c → c < a) : a ∉ y := fun hm => by
  obtain ⟨j', hj'⟩ := List.getElem?_of_mem hm
  rcases Nat.lt_trichotomy j' j with e | e | e
  · have := hlow j' a e hj'; omega
  · subst e; rw [hb] at hj'; injection hj' with hj'; omega
  · have := choice_lt h hb hj' e; omega
theorem pairsTo_stop {items : List Itm} {x y : List Int} {i n : Nat} (hi : i ≤ n) (h : ∀ k, i ≤ k → k < n → pairsAt items x y k = []) : pairsTo items x y n = pairsTo items x y i := by
  obtain ⟨d, rfl⟩ : ∃ d, n = i + d := ⟨n - i, by omega⟩
  clear hi
  induction d with
  | zero => rfl
  | succ d ih => rw [← Nat.add_assoc, pairsTo_next, h (i + d) (by omega) (by omega), List.append_nil]; exact ih fun k h1 h2 => h k h1 (by omega)
set_option maxHeartbeats 4000000 in
theorem common_ok (items : List Itm) (x y : List Int) (hi : items.length ≤ 100) (hs : ∀ x ∈ items, ItmS x) (hx : x.length ≤ 9223372036854775807) (hy : y.length ≤ 9223372036854775807) : Good Try.prog TT false 29 [itmsV items, ints x, ints y] (· = .lst 2 ((comL items x y).map encRef)) := by
  have LI : (items.map encX).length = items.length := List.length_map ..
  have LX : (x.map encI).length = x.length := List.length_map ..
  have LY : (y.map encI).length = y.length := List.length_map ..
  have bad : comL items x y = [] → aret .nil (· = .lst 2 ((comL items x y).map encRef)) := fun h => ret_nl (z := 2) (by rw [h]; rfl)
  refine good_of mixed tabOk Try.func29 rfl rfl Try.ntmps29 Try.results29 rfl rfl ?_
  (conv => whnf); (repeat' (first | (refine arith_i ⟨by omega, by omega⟩ ?_; conv => whnf) | (refine arith_u ⟨by omega, by omega⟩ ?_; conv => whnf) | (refine arith_8 ⟨by omega, by omega⟩ ?_; conv => whnf) | (refine need_i (by first | omega | (simp only [List.length_cons, List.length_nil]; omega) | (simp only [List.length_append, List.length_cons, List.length_nil, List.length_map, List.length_replicate, List.length_modify]; omega)) ?_; conv => whnf) | ((with_reducible refine branch_tt ?_); conv => whnf) | ((with_reducible refine branch_ff ?_); conv => whnf) | (with_reducible refine branch_not ?_) | ((refine call_e (offsets_ok items x hi hs hx) ?_); conv => whnf) | ((refine call_e (offsets_ok items y hi hs hy) ?_); conv => whnf) | ((with_reducible refine slc_e ?_); conv => whnf) | ((with_reducible refine callS_a ?_); conv => whnf) | ((with_reducible refine bld_a ?_); conv => whnf) | ((with_reducible refine own_e ?_); conv => whnf) | ((with_reducible refine mkmap_b ?_); conv => whnf) | (refine draw_i 10 plGL11x_0 (by decide +kernel) ?_; (conv => whnf); fail_if_success (guard_target =~ False)) | (refine draw_i 10 plGL11x_1 (by decide +kernel) ?_; (conv => whnf); fail_if_success (guard_target =~ False)) | (refine draw_i 10 plGL11x_0 (by decide +kernel) ?_; (conv => whnf); fail_if_success (guard_target =~ False)) | (refine draw_i 10 plGL11x_1 (by decide +kernel) ?_; (conv => whnf); fail_if_success (guard_target =~ False)) | (refine draw_i 17 plGL11x_2 (by decide +kernel) ?_; (conv => whnf); fail_if_success (guard_target =~ False)) | (refine draw_i 17 plGL11x_3 (by decide +kernel) ?_; (conv => whnf); fail_if_success (guard_target =~ False)) | ((with_reducible refine And.intro ?_ ?_) <;> (conv => whnf)) | (with_reducible exact trivial) | ((with_reducible refine branch_d (fun hq => ?_) (fun hq => ?_)) <;> (try (exfalso; omega)) <;> (conv => whnf)) | ((with_reducible refine branch_e (fun hq => ?_) (fun hq => ?_)) <;> (try (exfalso; omega)) <;> (conv => whnf)) | ((with_reducible refine branch_n (fun hq => ?_) (fun hq => ?_)) <;> (try (exfalso; omega)) <;> (conv => whnf)) | ((with_reducible refine branch_i (fun hq => ?_) (fun hq => ?_)) <;> (try (exfalso; omega)) <;> (conv => whnf))))
  all_goals try exact bad (by rw [comL, if_neg (by simp [*])])
  have hokx : okIB items x = true := by assumption
  have hoky : okIB items y = true := by assumption
  have hcx := ok_choice hokx
  have hcy := ok_choice hoky
  have hxl := choice_len hcx
  have hyl := choice_len hcy
  refine loop_i2 (fun i j : Nat => i ≤ x.length ∧ j ≤ y.length ∧ ∀ j' b a, j' < j → y[j']? = some b → x[i]? = some a → b < a) (fun i j => mkSt [(0, itmsV items), (1, ints x), (2, ints y), (7, ints (offL items x)), (9, ints (offL items y)), (10, .own 900 68 2 ((pairsTo items x y i).map encRef)), (11, .int .i64 i), (12, .int .i64 j)] [] false) (fun i j => (x.length - i) + (y.length - j)) 0 0 ⟨Nat.zero_le _, Nat.zero_le _, fun j' b a h => by omega⟩ (Le.trans (le_adopt 10 900 68 2 rfl) (by rw [hokx, hoky]; exact (le_mk (by repeat' (first | exact trivial | rfl | apply And.intro)) (by repeat' (first | exact trivial | rfl | apply And.intro)) rfl))) ?_
  rintro i j ⟨hi1, hj1, hlow⟩
  have LP := pairsTo_len hs (x := x) (y := y) i
  have LO1 : ((offL items x).map encI).length = x.length := by simp [offL]
  have LO2 : ((offL items y).map encI).length = y.length := by simp [offL]
  rcases Nat.lt_or_ge i x.length with hix | hix
  · rcases Nat.lt_or_ge j y.length with hjy | hjy
    · obtain ⟨a, ha⟩ : ∃ a, x[i]? = some a := ⟨_, List.getElem?_eq_getElem hix⟩
      obtain ⟨b, hb⟩ : ∃ b, y[j]? = some b := ⟨_, List.getElem?_eq_getElem hjy⟩
      have hab := choice_elt hcx ha
      obtain ⟨it, hit⟩ : ∃ it, items[a.toNat]? = some it := ⟨_, List.getElem?_eq_getElem (by omega)⟩
      have hpn : partsN items a = it.parts.length := by rw [partsN, hit]
      have LQ : (it.parts.map encPt).length = it.parts.length := List.length_map ..
      (conv => whnf); (repeat' (first | (refine arith_i ⟨by omega, by omega⟩ ?_; conv => whnf) | (refine arith_u ⟨by omega, by omega⟩ ?_; conv => whnf) | (refine arith_8 ⟨by omega, by omega⟩ ?_; conv => whnf) | (refine need_i (by first | omega | (simp only [List.length_cons, List.length_nil]; omega) | (simp only [List.length_append, List.length_cons, List.length_nil, List.length_map, List.length_replicate, List.length_modify]; omega)) ?_; conv => whnf) | ((with_reducible refine branch_tt ?_); conv => whnf) | ((with_reducible refine branch_ff ?_); conv => whnf) | (with_reducible refine branch_not ?_) | ((refine idx_cs ha ?_); conv => whnf) | ((refine idx_cs hb ?_); conv => whnf) | ((refine idx_ms (by omega) hit ?_); conv => whnf) | ((with_reducible refine slc_e ?_); conv => whnf) | ((with_reducible refine callS_a ?_); conv => whnf) | ((with_reducible refine bld_a ?_); conv => whnf) | ((with_reducible refine own_e ?_); conv => whnf) | ((with_reducible refine mkmap_b ?_); conv => whnf) | (refine draw_i 10 plGL11x_0 (by decide +kernel) ?_; (conv => whnf); fail_if_success (guard_target =~ False)) | (refine draw_i 10 plGL11x_1 (by decide +kernel) ?_; (conv => whnf); fail_if_success (guard_target =~ False)) | (refine draw_i 10 plGL11x_0 (by decide +kernel) ?_; (conv => whnf); fail_if_success (guard_target =~ False)) | (refine draw_i 10 plGL11x_1 (by decide +kernel) ?_; (conv => whnf); fail_if_success (guard_target =~ False)) | (refine draw_i 17 plGL11x_2 (by decide +kernel) ?_; (conv => whnf); fail_if_success (guard_target =~ False)) | (refine draw_i 17 plGL11x_3 (by decide +kernel) ?_; (conv => whnf); fail_if_success (guard_target =~ False)) | ((with_reducible refine And.intro ?_ ?_) <;> (conv => whnf)) | (with_reducible exact trivial) | ((with_reducible refine branch_d (fun hq => ?_) (fun hq => ?_)) <;> (try (exfalso; omega)) <;> (conv => whnf)) | ((with_reducible refine branch_e (fun hq => ?_) (fun hq => ?_)) <;> (try (exfalso; omega)) <;> (conv => whnf)) | ((with_reducible refine branch_n (fun hq => ?_) (fun hq => ?_)) <;> (try (exfalso; omega)) <;> (conv => whnf)) | ((with_reducible refine branch_i (fun hq => ?_) (fun hq => ?_)) <;> (try (exfalso; omega)) <;> (conv => whnf))))
      · have hab' : a < b := by omega
        have hn : a ∉ y := not_in hcy hb hab' fun j' c h1 h2 => hlow j' c a h1 h2 ha
        refine ⟨i + 1, j, ⟨by omega, hj1, fun j' c a' h1 h2 h3 => ?_⟩, by rw [pairsTo_next, pairsAt_out ha hn, List.append_nil]; exact (le_mk (by repeat' (first | exact trivial | rfl | apply And.intro)) (by repeat' (first | exact trivial | rfl | apply And.intro)) rfl), by omega⟩
        have := hlow j' c a h1 h2 ha
        have := choice_lt hcx ha h3 (by omega)
        omega
      · have hab' : b < a := by omega
        refine ⟨i, j + 1, ⟨hi1, by omega, fun j' c a' h1 h2 h3 => ?_⟩, (le_mk (by repeat' (first | exact trivial | rfl | apply And.intro)) (by repeat' (first | exact trivial | rfl | apply And.intro)) rfl), by omega⟩
        rw [ha] at h3; injection h3 with h3; subst h3
        rcases Nat.lt_or_ge j' j with h | h
        · exact hlow j' c a h h2 ha
        · obtain rfl : j' = j := by omega
          rw [hb] at h2; injection h2 with h2; omega
      · obtain rfl : a = b := by omega
        have hix' := idxOf_at hcy hb
        have o1 := off_in hs hcx (k := i) (by omega)
        have o2 := off_in hs hcy (k := j) (by omega)
        have hil := (hs it (List.mem_of_getElem? hit)).2.1
        refine loop_i (fun k : Nat => k ≤ it.parts.length) (fun k => mkSt [(0, itmsV items), (1, ints x), (2, ints y), (7, ints (offL items x)), (9, ints (offL items y)), (10, .own 900 68 2 ((pairsTo items x y i ++ pairsK items x y i a k).map encRef)), (11, .int .i64 i), (12, .int .i64 j), (48, .int .i64 (it.parts.map encPt).length), (49, .int .i64 k)] [] false) (fun k => it.parts.length - k) 0 (Nat.zero_le _) (by rw [show pairsK items x y i a 0 = [] from rfl, List.append_nil]; exact (le_mk (by repeat' (first | exact trivial | rfl | apply And.intro)) (by repeat' (first | exact trivial | rfl | apply And.intro)) rfl)) ?_
        intro k hk
        have LK : (pairsTo items x y i ++ pairsK items x y i a k).length ≤ 200000 := by simp [pairsK]; omega
        have LKM : ((pairsTo items x y i ++ pairsK items x y i a k).map encRef).length = (pairsTo items x y i ++ pairsK items x y i a k).length := List.length_map ..
        (conv => whnf); (repeat' (first | (refine arith_i ⟨by omega, by omega⟩ ?_; conv => whnf) | (refine arith_u ⟨by omega, by omega⟩ ?_; conv => whnf) | (refine arith_8 ⟨by omega, by omega⟩ ?_; conv => whnf) | (refine need_i (by first | omega | (simp only [List.length_cons, List.length_nil]; omega) | (simp only [List.length_append, List.length_cons, List.length_nil, List.length_map, List.length_replicate, List.length_modify]; omega)) ?_; conv => whnf) | ((with_reducible refine branch_tt ?_); conv => whnf) | ((with_reducible refine branch_ff ?_); conv => whnf) | (with_reducible refine branch_not ?_) | ((refine idx_cs (offL_at hix) ?_); conv => whnf) | ((refine idx_cs (offL_at hjy) ?_); conv => whnf) | ((with_reducible refine slc_e ?_); conv => whnf) | ((with_reducible refine callS_a ?_); conv => whnf) | ((with_reducible refine bld_a ?_); conv => whnf) | ((with_reducible refine own_e ?_); conv => whnf) | ((with_reducible refine mkmap_b ?_); conv => whnf) | (refine draw_i 10 plGL11x_0 (by decide +kernel) ?_; (conv => whnf); fail_if_success (guard_target =~ False)) | (refine draw_i 10 plGL11x_1 (by decide +kernel) ?_; (conv => whnf); fail_if_success (guard_target =~ False)) | (refine draw_i 10 plGL11x_0 (by decide +kernel) ?_; (conv => whnf); fail_if_success (guard_target =~ False)) | (refine draw_i 10 plGL11x_1 (by decide +kernel) ?_; (conv => whnf); fail_if_success (guard_target =~ False)) | (refine draw_i 17 plGL11x_2 (by decide +kernel) ?_; (conv => whnf); fail_if_success (guard_target =~ False)) | (refine draw_i 17 plGL11x_3 (by decide +kernel) ?_; (conv => whnf); fail_if_success (guard_target =~ False)) | ((with_reducible refine And.intro ?_ ?_) <;> (conv => whnf)) | (with_reducible exact trivial) | ((with_reducible refine branch_d (fun hq => ?_) (fun hq => ?_)) <;> (try (exfalso; omega)) <;> (conv => whnf)) | ((with_reducible refine branch_e (fun hq => ?_) (fun hq => ?_)) <;> (try (exfalso; omega)) <;> (conv => whnf)) | ((with_reducible refine branch_n (fun hq => ?_) (fun hq => ?_)) <;> (try (exfalso; omega)) <;> (conv => whnf)) | ((with_reducible refine branch_i (fun hq => ?_) (fun hq => ?_)) <;> (try (exfalso; omega)) <;> (conv => whnf))))
        · refine ⟨k + 1, by omega, ?_, by omega⟩
          rw [pairs_snoc, hix']
          exact (le_mk (by repeat' (first | exact trivial | rfl | apply And.intro)) (by repeat' (first | exact trivial | rfl | apply And.intro)) rfl)
        · have hkk : k = it.parts.length := by omega
          refine ⟨i + 1, j + 1, ⟨by omega, by omega, fun j' c a' h1 h2 h3 => ?_⟩, ?_, by omega⟩
          · have := choice_lt hcx ha h3 (by omega)
            rcases Nat.lt_or_ge j' j with h | h
            · have := hlow j' c a h h2 ha; omega
            · obtain rfl : j' = j := by omega
              rw [hb] at h2; injection h2 with h2; omega
          · rw [pairsTo_next, pairsAt_in ha (List.mem_of_getElem? hb), hpn, ← hkk]
            exact (le_mk (by repeat' (first | exact trivial | rfl | apply And.intro)) (by repeat' (first | exact trivial | rfl | apply And.intro)) rfl)
    · (conv => whnf); (repeat' (first | (refine arith_i ⟨by omega, by omega⟩ ?_; conv => whnf) | (refine arith_u ⟨by omega, by omega⟩ ?_; conv => whnf) | (refine arith_8 ⟨by omega, by omega⟩ ?_; conv => whnf) | (refine need_i (by first | omega | (simp only [List.length_cons, List.length_nil]; omega) | (simp only [List.length_append, List.length_cons, List.length_nil, List.length_map, List.length_replicate, List.length_modify]; omega)) ?_; conv => whnf) | ((with_reducible refine branch_tt ?_); conv => whnf) | ((with_reducible refine branch_ff ?_); conv => whnf) | (with_reducible refine branch_not ?_) | ((with_reducible refine slc_e ?_); conv => whnf) | ((with_reducible refine callS_a ?_); conv => whnf) | ((with_reducible refine bld_a ?_); conv => whnf) | ((with_reducible refine own_e ?_); conv => whnf) | ((with_reducible refine mkmap_b ?_); conv => whnf) | (refine draw_i 10 plGL11x_0 (by decide +kernel) ?_; (conv => whnf); fail_if_success (guard_target =~ False)) | (refine draw_i 10 plGL11x_1 (by decide +kernel) ?_; (conv => whnf); fail_if_success (guard_target =~ False)) | (refine draw_i 10 plGL11x_0 (by decide +kernel) ?_; (conv => whnf); fail_if_success (guard_target =~ False)) | (refine draw_i 10 plGL11x_1 (by decide +kernel) ?_; (conv => whnf); fail_if_success (guard_target =~ False)) | (refine draw_i 17 plGL11x_2 (by decide +kernel) ?_; (conv => whnf); fail_if_success (guard_target =~ False)) | (refine draw_i 17 plGL11x_3 (by decide +kernel) ?_; (conv => whnf); fail_if_success (guard_target =~ False)) | ((with_reducible refine And.intro ?_ ?_) <;> (conv => whnf)) | (with_reducible exact trivial) | ((with_reducible refine branch_d (fun hq => ?_) (fun hq => ?_)) <;> (try (exfalso; omega)) <;> (conv => whnf)) | ((with_reducible refine branch_e (fun hq => ?_) (fun hq => ?_)) <;> (try (exfalso; omega)) <;> (conv => whnf)) | ((with_reducible refine branch_n (fun hq => ?_) (fun hq => ?_)) <;> (try (exfalso; omega)) <;> (conv => whnf)) | ((with_reducible refine branch_i (fun hq => ?_) (fun hq => ?_)) <;> (try (exfalso; omega)) <;> (conv => whnf))))
      refine ret_ol ?_
      have hst : pairsTo items x y x.length = pairsTo items x y i := pairsTo_stop (by omega) fun i' h1 h2 => by
        obtain ⟨a', ha'⟩ : ∃ a, x[i']? = some a := ⟨_, List.getElem?_eq_getElem h2⟩
        refine pairsAt_out ha' fun hm => ?_
        obtain ⟨j', hj'⟩ := List.getElem?_of_mem hm
        have hjl := (List.getElem?_eq_some_iff.1 hj').1
        obtain ⟨a, ha⟩ : ∃ a, x[i]? = some a := ⟨_, List.getElem?_eq_getElem hix⟩
        have h3 := hlow j' a' a (by omega) hj' ha
        rcases Nat.eq_or_lt_of_le h1 with e | e
        · subst e; rw [ha] at ha'; injection ha' with ha'; omega
        · have := choice_lt hcx ha ha' e; omega
      show _ = AV.lst 2 _
      rw [comL, if_pos ⟨hokx, hoky⟩, hst]
  · (conv => whnf); (repeat' (first | (refine arith_i ⟨by omega, by omega⟩ ?_; conv => whnf) | (refine arith_u ⟨by omega, by omega⟩ ?_; conv => whnf) | (refine arith_8 ⟨by omega, by omega⟩ ?_; conv => whnf) | (refine need_i (by first | omega | (simp only [List.length_cons, List.length_nil]; omega) | (simp only [List.length_append, List.length_cons, List.length_nil, List.length_map, List.length_replicate, List.length_modify]; omega)) ?_; conv => whnf) | ((with_reducible refine branch_tt ?_); conv => whnf) | ((with_reducible refine branch_ff ?_); conv => whnf) | (with_reducible refine branch_not ?_) | ((with_reducible refine slc_e ?_); conv => whnf) | ((with_reducible refine callS_a ?_); conv => whnf) | ((with_reducible refine bld_a ?_); conv => whnf) | ((with_reducible refine own_e ?_); conv => whnf) | ((with_reducible refine mkmap_b ?_); conv => whnf) | (refine draw_i 10 plGL11x_0 (by decide +kernel) ?_; (conv => whnf); fail_if_success (guard_target =~ False)) | (refine draw_i 10 plGL11x_1 (by decide +kernel) ?_; (conv => whnf); fail_if_success (guard_target =~ False)) | (refine draw_i 10 plGL11x_0 (by decide +kernel) ?_; (conv => whnf); fail_if_success (guard_target =~ False)) | (refine draw_i 10 plGL11x_1 (by decide +kernel) ?_; (conv => whnf); fail_if_success (guard_target =~ False)) | (refine draw_i 17 plGL11x_2 (by decide +kernel) ?_; (conv => whnf); fail_if_success (guard_target =~ False)) | (refine draw_i 17 plGL11x_3 (by decide +kernel) ?_; (conv => whnf); fail_if_success (guard_target =~ False)) | ((with_reducible refine And.intro ?_ ?_) <;> (conv => whnf)) | (with_reducible exact trivial) | ((with_reducible refine branch_d (fun hq => ?_) (fun hq => ?_)) <;> (try (exfalso; omega)) <;> (conv => whnf)) | ((with_reducible refine branch_e (fun hq => ?_) (fun hq => ?_)) <;> (try (exfalso; omega)) <;> (conv => whnf)) | ((with_reducible refine branch_n (fun hq => ?_) (fun hq => ?_)) <;> (try (exfalso; omega)) <;> (conv => whnf)) | ((with_reducible refine branch_i (fun hq => ?_) (fun hq => ?_)) <;> (try (exfalso; omega)) <;> (conv => whnf))))
    refine ret_ol ?_
    obtain rfl : i = x.length := by omega
    show _ = AV.lst 2 _
    rw [comL, if_pos ⟨hokx, hoky⟩]
set_option maxHeartbeats 4000000 in
theorem rCommon_ok (items : List Itm) (x y : List Int) (hi : items.length ≤ 100) (hs : ∀ x ∈ items, ItmS x) (hx : x.length ≤ 9223372036854775807) (hy : y.length ≤ 9223372036854775807) : Good Try.prog TT false 30 [itmsV items, ints x, ints y] (· = .lst 2 ((comL items x y).map encRef)) := by
  have LI : (items.map encX).length = items.length := List.length_map ..
  have LX : (x.map encI).length = x.length := List.length_map ..
  have LY : (y.map encI).length = y.length := List.length_map ..
  have bad : comL items x y = [] → aret .nil (· = .lst 2 ((comL items x y).map encRef)) := fun h => ret_nl (z := 2) (by rw [h]; rfl)
  refine good_of mixed tabOk Try.func30 rfl rfl Try.ntmps30 Try.results30 rfl rfl ?_
  (conv => whnf); (repeat' (first | (refine arith_i ⟨by omega, by omega⟩ ?_; conv => whnf) | (refine arith_u ⟨by omega, by omega⟩ ?_; conv => whnf) | (refine arith_8 ⟨by omega, by omega⟩ ?_; conv => whnf) | (refine need_i (by first | omega | (simp only [List.length_cons, List.length_nil]; omega) | (simp only [List.length_append, List.length_cons, List.length_nil, List.length_map, List.length_replicate, List.length_modify]; omega)) ?_; conv => whnf) | ((with_reducible refine branch_tt ?_); conv => whnf) | ((with_reducible refine branch_ff ?_); conv => whnf) | (with_reducible refine branch_not ?_) | ((refine call_e (rValid11_ok items x hi hs hx) ?_); conv => whnf) | ((refine call_e (rValid11_ok items y hi hs hy) ?_); conv => whnf) | ((with_reducible refine slc_e ?_); conv => whnf) | ((with_reducible refine callS_a ?_); conv => whnf) | ((with_reducible refine bld_a ?_); conv => whnf) | ((with_reducible refine own_e ?_); conv => whnf) | ((with_reducible refine mkmap_b ?_); conv => whnf) | (refine draw_i 16 plGL11x_4 (by decide +kernel) ?_; (conv => whnf); fail_if_success (guard_target =~ False)) | (refine draw_i 16 plGL11x_5 (by decide +kernel) ?_; (conv => whnf); fail_if_success (guard_target =~ False)) | ((with_reducible refine And.intro ?_ ?_) <;> (conv => whnf)) | (with_reducible exact trivial) | ((with_reducible refine branch_d (fun hq => ?_) (fun hq => ?_)) <;> (try (exfalso; omega)) <;> (conv => whnf)) | ((with_reducible refine branch_e (fun hq => ?_) (fun hq => ?_)) <;> (try (exfalso; omega)) <;> (conv => whnf)) | ((with_reducible refine branch_n (fun hq => ?_) (fun hq => ?_)) <;> (try (exfalso; omega)) <;> (conv => whnf)) | ((with_reducible refine branch_i (fun hq => ?_) (fun hq => ?_)) <;> (try (exfalso; omega)) <;> (conv => whnf))))
  all_goals try exact bad (by rw [comL, if_neg (by simp [*])])
  have hokx : okIB items x = true := by assumption
  have hoky : okIB items y = true := by assumption
  have hcx := ok_choice hokx
  have hcy := ok_choice hoky
  have hxl := choice_len hcx
  have hyl := choice_len hcy
  refine loop_i (fun i : Nat => i ≤ x.length) (fun i => mkSt [(0, itmsV items), (1, ints x), (2, ints y), (7, .own 900 68 2 ((pairsTo items x y i).map encRef)), (8, .int .i64 i)] [] false) (fun i => x.length - i) 0 (Nat.zero_le _) (Le.trans (le_adopt 7 900 68 2 rfl) (le_mk (by repeat' (first | exact trivial | rfl | apply And.intro)) (by repeat' (first | exact trivial | rfl | apply And.intro)) rfl)) ?_
  intro i hi1
  have LP := pairsTo_len hs (x := x) (y := y) i
  rcases Nat.lt_or_ge i x.length with hix | hix
  · obtain ⟨a, ha⟩ : ∃ a, x[i]? = some a := ⟨_, List.getElem?_eq_getElem hix⟩
    have hab := choice_elt hcx ha
    obtain ⟨it, hit⟩ : ∃ it, items[a.toNat]? = some it := ⟨_, List.getElem?_eq_getElem (by omega)⟩
    have hpn : partsN items a = it.parts.length := by rw [partsN, hit]
    have LQ : (it.parts.map encPt).length = it.parts.length := List.length_map ..
    have hil := (hs it (List.mem_of_getElem? hit)).2.1
    by_cases hm : a ∈ y
    · have hjl := List.idxOf_lt_length_iff.2 hm
      have hj : y[y.idxOf a]? = some a := by rw [List.getElem?_eq_getElem hjl]; simp
      have o1 := off_in hs hcx (k := i) (by omega)
      have o2 := off_in hs hcy (k := y.idxOf a) (by omega)
      (conv => whnf); (repeat' (first | (refine arith_i ⟨by omega, by omega⟩ ?_; conv => whnf) | (refine arith_u ⟨by omega, by omega⟩ ?_; conv => whnf) | (refine arith_8 ⟨by omega, by omega⟩ ?_; conv => whnf) | (refine need_i (by first | omega | (simp only [List.length_cons, List.length_nil]; omega) | (simp only [List.length_append, List.length_cons, List.length_nil, List.length_map, List.length_replicate, List.length_modify]; omega)) ?_; conv => whnf) | ((with_reducible refine branch_tt ?_); conv => whnf) | ((with_reducible refine branch_ff ?_); conv => whnf) | (with_reducible refine branch_not ?_) | ((refine idx_cs ha ?_); conv => whnf) | ((refine call_e ((has_any11 y a hy).mono fun r h => h.trans (by rw [hasB_iff.2 hm])) ?_); conv => whnf) | ((refine call_e (rOffset_ok items x a i hi hs hcx ha) ?_); conv => whnf) | ((refine call_e (rOffset_ok items y a _ hi hs hcy hj) ?_); conv => whnf) | ((refine idx_ms (by omega) hit ?_); conv => whnf) | ((with_reducible refine slc_e ?_); conv => whnf) | ((with_reducible refine callS_a ?_); conv => whnf) | ((with_reducible refine bld_a ?_); conv => whnf) | ((with_reducible refine own_e ?_); conv => whnf) | ((with_reducible refine mkmap_b ?_); conv => whnf) | (refine draw_i 16 plGL11x_4 (by decide +kernel) ?_; (conv => whnf); fail_if_success (guard_target =~ False)) | (refine draw_i 16 plGL11x_5 (by decide +kernel) ?_; (conv => whnf); fail_if_success (guard_target =~ False)) | ((with_reducible refine And.intro ?_ ?_) <;> (conv => whnf)) | (with_reducible exact trivial) | ((with_reducible refine branch_d (fun hq => ?_) (fun hq => ?_)) <;> (try (exfalso; omega)) <;> (conv => whnf)) | ((with_reducible refine branch_e (fun hq => ?_) (fun hq => ?_)) <;> (try (exfalso; omega)) <;> (conv => whnf)) | ((with_reducible refine branch_n (fun hq => ?_) (fun hq => ?_)) <;> (try (exfalso; omega)) <;> (conv => whnf)) | ((with_reducible refine branch_i (fun hq => ?_) (fun hq => ?_)) <;> (try (exfalso; omega)) <;> (conv => whnf))))
      refine loop_i (fun k : Nat => k ≤ it.parts.length) (fun k => mkSt [(0, itmsV items), (1, ints x), (2, ints y), (7, .own 900 68 2 ((pairsTo items x y i ++ pairsK items x y i a k).map encRef)), (8, .int .i64 i), (9, .int .i64 (offAt items x i)), (10, .int .i64 (offAt items y (y.idxOf a))), (11, .int .i64 k)] [] false) (fun k => it.parts.length - k) 0 (Nat.zero_le _) (by rw [show pairsK items x y i a 0 = [] from rfl, List.append_nil]; exact (le_mk (by repeat' (first | exact trivial | rfl | apply And.intro)) (by repeat' (first | exact trivial | rfl | apply And.intro)) rfl)) ?_
      intro k hk
      have LK : (pairsTo items x y i ++ pairsK items x y i a k).length ≤ 200000 := by simp [pairsK]; omega
      have LKM : ((pairsTo items x y i ++ pairsK items x y i a k).map encRef).length = (pairsTo items x y i ++ pairsK items x y i a k).length := List.length_map ..
      (conv => whnf); (repeat' (first | (refine arith_i ⟨by omega, by omega⟩ ?_; conv => whnf) | (refine arith_u ⟨by omega, by omega⟩ ?_; conv => whnf) | (refine arith_8 ⟨by omega, by omega⟩ ?_; conv => whnf) | (refine need_i (by first | omega | (simp only [List.length_cons, List.length_nil]; omega) | (simp only [List.length_append, List.length_cons, List.length_nil, List.length_map, List.length_replicate, List.length_modify]; omega)) ?_; conv => whnf) | ((with_reducible refine branch_tt ?_); conv => whnf) | ((with_reducible refine branch_ff ?_); conv => whnf) | (with_reducible refine branch_not ?_) | ((refine idx_cs ha ?_); conv => whnf) | ((refine idx_ms (by omega) hit ?_); conv => whnf) | ((with_reducible refine slc_e ?_); conv => whnf) | ((with_reducible refine callS_a ?_); conv => whnf) | ((with_reducible refine bld_a ?_); conv => whnf) | ((with_reducible refine own_e ?_); conv => whnf) | ((with_reducible refine mkmap_b ?_); conv => whnf) | (refine draw_i 16 plGL11x_4 (by decide +kernel) ?_; (conv => whnf); fail_if_success (guard_target =~ False)) | (refine draw_i 16 plGL11x_5 (by decide +kernel) ?_; (conv => whnf); fail_if_success (guard_target =~ False)) | ((with_reducible refine And.intro ?_ ?_) <;> (conv => whnf)) | (with_reducible exact trivial) | ((with_reducible refine branch_d (fun hq => ?_) (fun hq => ?_)) <;> (try (exfalso; omega)) <;> (conv => whnf)) | ((with_reducible refine branch_e (fun hq => ?_) (fun hq => ?_)) <;> (try (exfalso; omega)) <;> (conv => whnf)) | ((with_reducible refine branch_n (fun hq => ?_) (fun hq => ?_)) <;> (try (exfalso; omega)) <;> (conv => whnf)) | ((with_reducible refine branch_i (fun hq => ?_) (fun hq => ?_)) <;> (try (exfalso; omega)) <;> (conv => whnf))))
      · refine ⟨k + 1, by omega, ?_, by omega⟩
        rw [pairs_snoc]
        exact (le_mk (by repeat' (first | exact trivial | rfl | apply And.intro)) (by repeat' (first | exact trivial | rfl | apply And.intro)) rfl)
      · have hkk : k = it.parts.length := by omega
        refine ⟨i + 1, by omega, ?_, by omega⟩
        rw [pairsTo_next, pairsAt_in ha hm, hpn, ← hkk]
        exact (le_mk (by repeat' (first | exact trivial | rfl | apply And.intro)) (by repeat' (first | exact trivial | rfl | apply And.intro)) rfl)
    · (conv => whnf); (repeat' (first | (refine arith_i ⟨by omega, by omega⟩ ?_; conv => whnf) | (refine arith_u ⟨by omega, by omega⟩ ?_; conv => whnf) | (refine arith_8 ⟨by omega, by omega⟩ ?_; conv => whnf) | (refine need_i (by first | omega | (simp only [List.length_cons, List.length_nil]; omega) | (simp only [List.length_append, List.length_cons, List.length_nil, List.length_map, List.length_replicate, List.length_modify]; omega)) ?_; conv => whnf) | ((with_reducible refine branch_tt ?_); conv => whnf) | ((with_reducible refine branch_ff ?_); conv => whnf) | (with_reducible refine branch_not ?_) | ((refine idx_cs ha ?_); conv => whnf) | ((refine call_e ((has_any11 y a hy).mono fun r h => h.trans (by rw [show hasB y a = false by cases hh : hasB y a with | false => rfl | true => exact absurd (hasB_iff.1 hh) hm])) ?_); conv => whnf) | ((with_reducible refine slc_e ?_); conv => whnf) | ((with_reducible refine callS_a ?_); conv => whnf) | ((with_reducible refine bld_a ?_); conv => whnf) | ((with_reducible refine own_e ?_); conv => whnf) | ((with_reducible refine mkmap_b ?_); conv => whnf) | (refine draw_i 16 plGL11x_4 (by decide +kernel) ?_; (conv => whnf); fail_if_success (guard_target =~ False)) | (refine draw_i 16 plGL11x_5 (by decide +kernel) ?_; (conv => whnf); fail_if_success (guard_target =~ False)) | ((with_reducible refine And.intro ?_ ?_) <;> (conv => whnf)) | (with_reducible exact trivial) | ((with_reducible refine branch_d (fun hq => ?_) (fun hq => ?_)) <;> (try (exfalso; omega)) <;> (conv => whnf)) | ((with_reducible refine branch_e (fun hq => ?_) (fun hq => ?_)) <;> (try (exfalso; omega)) <;> (conv => whnf)) | ((with_reducible refine branch_n (fun hq => ?_) (fun hq => ?_)) <;> (try (exfalso; omega)) <;> (conv => whnf)) | ((with_reducible refine branch_i (fun hq => ?_) (fun hq => ?_)) <;> (try (exfalso; omega)) <;> (conv => whnf))))
      exact ⟨i + 1, by omega, by rw [pairsTo_next, pairsAt_out ha hm, List.append_nil]; exact (le_mk (by repeat' (first | exact trivial | rfl | apply And.intro)) (by repeat' (first | exact trivial | rfl | apply And.intro)) rfl), by omega⟩
  · (conv => whnf); (repeat' (first | (refine arith_i ⟨by omega, by omega⟩ ?_; conv => whnf) | (refine arith_u ⟨by omega, by omega⟩ ?_; conv => whnf) | (refine arith_8 ⟨by omega, by omega⟩ ?_; conv => whnf) | (refine need_i (by first | omega | (simp only [List.length_cons, List.length_nil]; omega) | (simp only [List.length_append, List.length_cons, List.length_nil, List.length_map, List.length_replicate, List.length_modify]; omega)) ?_; conv => whnf) | ((with_reducible refine branch_tt ?_); conv => whnf) | ((with_reducible refine branch_ff ?_); conv => whnf) | (with_reducible refine branch_not ?_) | ((with_reducible refine slc_e ?_); conv => whnf) | ((with_reducible refine callS_a ?_); conv => whnf) | ((with_reducible refine bld_a ?_); conv => whnf) | ((with_reducible refine own_e ?_); conv => whnf) | ((with_reducible refine mkmap_b ?_); conv => whnf) | (refine draw_i 16 plGL11x_4 (by decide +kernel) ?_; (conv => whnf); fail_if_success (guard_target =~ False)) | (refine draw_i 16 plGL11x_5 (by decide +kernel) ?_; (conv => whnf); fail_if_success (guard_target =~ False)) | ((with_reducible refine And.intro ?_ ?_) <;> (conv => whnf)) | (with_reducible exact trivial) | ((with_reducible refine branch_d (fun hq => ?_) (fun hq => ?_)) <;> (try (exfalso; omega)) <;> (conv => whnf)) | ((with_reducible refine branch_e (fun hq => ?_) (fun hq => ?_)) <;> (try (exfalso; omega)) <;> (conv => whnf)) | ((with_reducible refine branch_n (fun hq => ?_) (fun hq => ?_)) <;> (try (exfalso; omega)) <;> (conv => whnf)) | ((with_reducible refine branch_i (fun hq => ?_) (fun hq => ?_)) <;> (try (exfalso; omega)) <;> (conv => whnf))))
    refine ret_ol ?_
    obtain rfl : i = x.length := by omega
    show _ = AV.lst 2 _
    rw [comL, if_pos ⟨hokx, hoky⟩]
end Go.Proofs.Ytiionjpinainlaa
end

/- Layer 11: the laws ParallelCommon and ParallelParts. -/
section
namespace Go.Proofs.Ytiionjpinainlaa
set_option linter.unusedVariables false
set_option linter.unusedSimpArgs false
set_option linter.unnecessarySimpa false
set_option linter.unusedSectionVars false
set_option maxRecDepth 10000
open Go.RowKit
def plGL11z_0 : Plan := (.take 0 (.take 1 (.take 2 (.take 3 (.take 4 (.take 5 (.take 6 (.take 7 (.take 8 .done)))))))))
def plGL11z_1 : Plan := (.take 0 (.take 1 (.take 2 (.take 4 (.take 5 (.take 6 (.alt 3 (.alt 7 (.take 8 .done) .stop) (.alt 7 (.alt 3 (.take 8 .done) .stop) .stop))))))))
theorem comL_len {items : List Itm} {x y : List Int} (hi : items.length ≤ 100) (hs : ∀ x ∈ items, ItmS x) : (comL items x y).length ≤ 100000 := by
  unfold comL
  split
  · next h =>
    have := pairsTo_len hs (x := x) (y := y) x.length
    have := choice_len (ok_choice h.1)
    omega
  · simp
theorem comP_at {items : List Itm} {x y : List Int} {es : List (List AV)} (he : items.map encX = es) (hi : items.length ≤ 100) (hs : ∀ x ∈ items, ItmS x) (hx : x.length ≤ 9223372036854775807) (hy : y.length ≤ 9223372036854775807) : Good Try.prog TT false 29 [.lst 5 es, ints x, ints y] (· = .lst 2 ((comL items x y).map encRef)) := by
  subst he; exact common_ok items x y hi hs hx hy
theorem rComP_at {items : List Itm} {x y : List Int} {es : List (List AV)} (he : items.map encX = es) (hi : items.length ≤ 100) (hs : ∀ x ∈ items, ItmS x) (hx : x.length ≤ 9223372036854775807) (hy : y.length ≤ 9223372036854775807) : Good Try.prog TT false 30 [.lst 5 es, ints x, ints y] (· = .lst 2 ((comL items x y).map encRef)) := by
  subst he; exact rCommon_ok items x y hi hs hx hy
set_option maxRecDepth 100000 in
theorem eq_pair (a b : Int) (w : World) : (Op.equalIn 10000 68 (.agg [Value.int .i64 a, .int .i64 b].toArray) (.agg [Value.int .i64 a, .int .i64 b].toArray)).run Try.prog w = .ok true w := by
  have u3 := Try.underlying3
  have a3 := Try.isAgg3
  have z3 := Try.sizeOf3
  have hS : Try.prog.underlying 68 = some (.struct (Try.prog.fieldsOf 68)) := by kernel_rfl
  have hp : Try.prog.stoodInHeld 68 = false := by kernel_rfl
  rw [show (10000 : Nat) = 9999 + 1 from rfl, run_equalIn_agg w 9999 68 _ _ hS hp]
  simp only [Program.fieldsOf, Try.underlying68]
  go_simp
theorem guard_pair : Try.prog.eqGuardType Try.prog.depth 68 = false := by kernel_rfl
theorem loop_pairs {s : St} {body : (Ex → St → Prop) → St → Prop} {Q : Ex → St → Prop} (ps : List (Int × Int)) (hle : Le TT s (mkSt [(11, .lst 2 (ps.map encRef)), (12, .lst 2 (ps.map encRef)), (13, .int .i64 (0 : Nat))] [] true))
    (h : ∀ k : Nat, k ≤ ps.length → body (fun e s' => match e with | .norm => ∃ k' : Nat, k' ≤ ps.length ∧ Le TT s' (mkSt [(11, .lst 2 (ps.map encRef)), (12, .lst 2 (ps.map encRef)), (13, .int .i64 k')] [] true) ∧ ps.length - k' < ps.length - k | .exit i => Q (.exit i) s' | .ret => Q .ret s') (mkSt [(11, .lst 2 (ps.map encRef)), (12, .lst 2 (ps.map encRef)), (13, .int .i64 k)] [] true)) : aloop TT body Q s :=
  loop_i (fun k : Nat => k ≤ ps.length) (fun k => mkSt [(11, .lst 2 (ps.map encRef)), (12, .lst 2 (ps.map encRef)), (13, .int .i64 k)] [] true) (fun k => ps.length - k) 0 (Nat.zero_le _) hle h
set_option maxHeartbeats 8000000 in
theorem common_law (xs x y : List Int) (hx : xs.length ≤ 9223372036854775807) (h1 : x.length ≤ 9223372036854775807) (h2 : y.length ≤ 9223372036854775807) : Good Try.prog TT false 7 [ints xs, ints x, ints y] (· = .bool true) := by
  refine good_of mixed tabOk Try.func7 rfl rfl Try.ntmps7 Try.results7 rfl rfl ?_
  (conv => whnf); (repeat' (first | (refine arith_i ⟨by omega, by omega⟩ ?_; conv => whnf) | (refine arith_u ⟨by omega, by omega⟩ ?_; conv => whnf) | (refine arith_8 ⟨by omega, by omega⟩ ?_; conv => whnf) | (refine need_i (by first | omega | (simp only [List.length_cons, List.length_nil]; omega) | (simp only [List.length_append, List.length_cons, List.length_nil, List.length_map, List.length_replicate, List.length_modify]; omega)) ?_; conv => whnf) | ((with_reducible refine branch_tt ?_); conv => whnf) | ((with_reducible refine branch_ff ?_); conv => whnf) | (with_reducible refine branch_not ?_) | ((refine call_e (new_ok xs hx) ?_); conv => whnf) | (((refine call_i (items_ok 6 (by omega)) fun r hr => ?_; obtain ⟨l, rfl, hl, hg⟩ := hr; have LL : (l.map encX).length = l.length := List.length_map ..)); conv => whnf) | (((refine call_i (one_ok _ (by omega)) fun r hr => ?_; obtain ⟨b1, rfl⟩ := hr)); conv => whnf) | (((refine call_i (item_ok 9 1 1 (by omega) (by omega)) fun r hr => ?_; obtain ⟨u, rfl, hxg⟩ := hr)); conv => whnf) | (((refine call_i (sorted_ok _ (by first | omega | (simp only [List.length_append, List.length_cons, List.length_nil]; omega))) fun r hr => ?_; obtain ⟨c, rfl, hc⟩ := hr; have hcl : c.length ≤ 9223372036854775807 := (by have := hc; simp only [List.length_append, List.length_cons, List.length_nil, List.length_map] at this; omega))); conv => whnf) | ((with_reducible refine slc_e ?_); conv => whnf) | ((with_reducible refine callS_a ?_); conv => whnf) | ((with_reducible refine bld_a ?_); conv => whnf) | ((with_reducible refine own_e ?_); conv => whnf) | ((with_reducible refine mkmap_b ?_); conv => whnf) | (refine draw_i 9 plGL11z_0 (by decide +kernel) ?_; (conv => whnf); fail_if_success (guard_target =~ False)) | (refine draw_i 9 plGL11z_1 (by decide +kernel) ?_; (conv => whnf); fail_if_success (guard_target =~ False)) | ((with_reducible refine And.intro ?_ ?_) <;> (conv => whnf)) | (with_reducible exact trivial) | ((with_reducible refine branch_d (fun hq => ?_) (fun hq => ?_)) <;> (try (exfalso; omega)) <;> (conv => whnf)) | ((with_reducible refine branch_e (fun hq => ?_) (fun hq => ?_)) <;> (try (exfalso; omega)) <;> (conv => whnf)) | ((with_reducible refine branch_n (fun hq => ?_) (fun hq => ?_)) <;> (try (exfalso; omega)) <;> (conv => whnf)) | ((with_reducible refine branch_i (fun hq => ?_) (fun hq => ?_)) <;> (try (exfalso; omega)) <;> (conv => whnf))))
  all_goals first
    | (have hL : (l ++ [u]).length ≤ 100 := by simp; omega
       have hS := itmS_snoc11 hg hxg.small
       (conv => whnf); (repeat' (first | (refine arith_i ⟨by omega, by omega⟩ ?_; conv => whnf) | (refine arith_u ⟨by omega, by omega⟩ ?_; conv => whnf) | (refine arith_8 ⟨by omega, by omega⟩ ?_; conv => whnf) | (refine need_i (by first | omega | (simp only [List.length_cons, List.length_nil]; omega) | (simp only [List.length_append, List.length_cons, List.length_nil, List.length_map, List.length_replicate, List.length_modify]; omega)) ?_; conv => whnf) | ((with_reducible refine branch_tt ?_); conv => whnf) | ((with_reducible refine branch_ff ?_); conv => whnf) | (with_reducible refine branch_not ?_) | (((refine call_e (comP_at map_snoc11 hL hS ?_ ?_) ?_; assumption; assumption)); conv => whnf) | (((refine call_e (rComP_at map_snoc11 hL hS ?_ ?_) ?_; assumption; assumption)); conv => whnf) | ((with_reducible refine slc_e ?_); conv => whnf) | ((with_reducible refine callS_a ?_); conv => whnf) | ((with_reducible refine bld_a ?_); conv => whnf) | ((with_reducible refine own_e ?_); conv => whnf) | ((with_reducible refine mkmap_b ?_); conv => whnf) | ((with_reducible refine branch_d (fun hq => ?_) (fun hq => ?_)) <;> (try (exfalso; omega)) <;> (conv => whnf)) | ((with_reducible refine branch_e (fun hq => ?_) (fun hq => ?_)) <;> (try (exfalso; omega)) <;> (conv => whnf)) | ((with_reducible refine branch_n (fun hq => ?_) (fun hq => ?_)) <;> (try (exfalso; omega)) <;> (conv => whnf)) | ((with_reducible refine branch_i (fun hq => ?_) (fun hq => ?_)) <;> (try (exfalso; omega)) <;> (conv => whnf)))))
    | (have hL : l.length ≤ 100 := by omega
       have hS : ∀ y ∈ l, ItmS y := fun y hy => (hg y hy).1
       (conv => whnf); (repeat' (first | (refine arith_i ⟨by omega, by omega⟩ ?_; conv => whnf) | (refine arith_u ⟨by omega, by omega⟩ ?_; conv => whnf) | (refine arith_8 ⟨by omega, by omega⟩ ?_; conv => whnf) | (refine need_i (by first | omega | (simp only [List.length_cons, List.length_nil]; omega) | (simp only [List.length_append, List.length_cons, List.length_nil, List.length_map, List.length_replicate, List.length_modify]; omega)) ?_; conv => whnf) | ((with_reducible refine branch_tt ?_); conv => whnf) | ((with_reducible refine branch_ff ?_); conv => whnf) | (with_reducible refine branch_not ?_) | (((refine call_e (comP_at rfl hL hS ?_ ?_) ?_; assumption; assumption)); conv => whnf) | (((refine call_e (rComP_at rfl hL hS ?_ ?_) ?_; assumption; assumption)); conv => whnf) | ((with_reducible refine slc_e ?_); conv => whnf) | ((with_reducible refine callS_a ?_); conv => whnf) | ((with_reducible refine bld_a ?_); conv => whnf) | ((with_reducible refine own_e ?_); conv => whnf) | ((with_reducible refine mkmap_b ?_); conv => whnf) | ((with_reducible refine branch_d (fun hq => ?_) (fun hq => ?_)) <;> (try (exfalso; omega)) <;> (conv => whnf)) | ((with_reducible refine branch_e (fun hq => ?_) (fun hq => ?_)) <;> (try (exfalso; omega)) <;> (conv => whnf)) | ((with_reducible refine branch_n (fun hq => ?_) (fun hq => ?_)) <;> (try (exfalso; omega)) <;> (conv => whnf)) | ((with_reducible refine branch_i (fun hq => ?_) (fun hq => ?_)) <;> (try (exfalso; omega)) <;> (conv => whnf)))))
  all_goals
    refine loop_pairs _ (le_mk (by repeat' (first | exact trivial | rfl | apply And.intro)) (by repeat' (first | exact trivial | rfl | apply And.intro)) rfl) ?_
    intro k hk
    have hk2 : k ≤ 100000 := Nat.le_trans hk (comL_len hL hS)
    (conv => whnf); (repeat' (first | (refine arith_i ⟨by omega, by omega⟩ ?_; conv => whnf) | (refine arith_u ⟨by omega, by omega⟩ ?_; conv => whnf) | (refine arith_8 ⟨by omega, by omega⟩ ?_; conv => whnf) | (refine need_i (by first | omega | (simp only [List.length_cons, List.length_nil]; omega) | (simp only [List.length_append, List.length_cons, List.length_nil, List.length_map, List.length_replicate, List.length_modify]; omega)) ?_; conv => whnf) | ((with_reducible refine branch_tt ?_); conv => whnf) | ((with_reducible refine branch_ff ?_); conv => whnf) | (with_reducible refine branch_not ?_) | ((refine draw_i 9 (.take 0 (.take 1 (.take 2 (.take 3 (.take 4 (.take 5 (.take 6 (.take 7 (.alt 8 .done .stop))))))))) (by decide +kernel) ?_); conv => whnf) | ((((with_reducible refine And.intro ?_ ?_) <;> (conv => whnf))); conv => whnf) | (((with_reducible exact trivial)); conv => whnf) | ((refine idx_cs (by assumption) ?_); conv => whnf) | (((refine idx_c (by simp only [List.length_map] at hq; omega) fun p hp => ?_)); conv => whnf) | ((refine eq_i guard_pair (fun w => eq_pair p.1 p.2 w) ?_); conv => whnf) | ((refine call_e awake11_ok ?_); conv => whnf) | ((with_reducible refine slc_e ?_); conv => whnf) | ((with_reducible refine callS_a ?_); conv => whnf) | ((with_reducible refine bld_a ?_); conv => whnf) | ((with_reducible refine own_e ?_); conv => whnf) | ((with_reducible refine mkmap_b ?_); conv => whnf) | ((with_reducible refine branch_d (fun hq => ?_) (fun hq => ?_)) <;> (try (exfalso; omega)) <;> (conv => whnf)) | ((with_reducible refine branch_e (fun hq => ?_) (fun hq => ?_)) <;> (try (exfalso; omega)) <;> (conv => whnf)) | ((with_reducible refine branch_n (fun hq => ?_) (fun hq => ?_)) <;> (try (exfalso; omega)) <;> (conv => whnf)) | ((with_reducible refine branch_i (fun hq => ?_) (fun hq => ?_)) <;> (try (exfalso; omega)) <;> (conv => whnf))))
    all_goals first
      | exact trivial
      | exact ret_p rfl rfl
      | exact ⟨k + 1, by simp only [List.length_map] at *; omega, (le_mk (by repeat' (first | exact trivial | rfl | apply And.intro)) (by repeat' (first | exact trivial | rfl | apply And.intro)) rfl), by simp only [List.length_map] at *; omega⟩
      | (exfalso; exact absurd hq (by decide))
end Go.Proofs.Ytiionjpinainlaa
end

/- Layer 11: the law ParallelParts. -/
section
namespace Go.Proofs.Ytiionjpinainlaa
set_option linter.unusedVariables false
set_option linter.unusedSimpArgs false
set_option linter.unnecessarySimpa false
set_option linter.unusedSectionVars false
set_option maxRecDepth 10000
open Go.RowKit
def plGL11p_0 : Plan := (.take 0 (.take 1 (.take 2 (.take 3 (.take 4 (.take 5 (.take 6 (.take 7 (.take 8 (.take 9 (.take 10 (.take 11 (.take 12 (.take 13 (.take 14 (.take 15 (.take 16 (.take 17 (.take 18 (.take 19 (.take 20 (.take 21 (.take 22 (.take 23 (.take 24 (.take 25 (.take 26 (.take 27 (.take 28 (.take 29 (.take 30 (.take 31 (.take 32 (.take 33 (.take 34 (.take 35 (.take 36 (.take 37 (.take 38 (.take 39 (.take 40 (.take 41 (.take 42 (.take 43 (.take 44 (.take 45 (.take 46 (.take 47 (.take 48 (.take 49 (.take 50 (.take 51 (.take 52 (.take 53 (.take 54 (.take 55 (.take 56 (.take 57 (.take 58 (.take 59 (.take 60 (.take 61 (.take 62 (.take 63 (.take 64 (.take 65 (.take 66 (.take 67 (.take 68 (.take 69 (.take 70 (.take 71 (.take 72 (.take 73 (.take 74 .done)))))))))))))))))))))))))))))))))))))))))))))))))))))))))))))))))))))))))))
theorem choice_mk {l : List Int} {n : Nat} (h1 : ∀ c ∈ l, 0 ≤ c ∧ c < n) (h2 : l.Pairwise (· < ·)) : choiceB l n = true := by
  refine ChTo.full (k := l.length) (fun i hi => ?_) (Nat.le_refl _)
  have e : nth l i = l[i] := nth_eq (List.getElem?_eq_getElem hi)
  have hb := h1 l[i] (List.getElem_mem hi)
  rw [choiceAt, e]
  simp only [Bool.and_eq_true, Bool.or_eq_true, decide_eq_true_eq]
  refine ⟨⟨hb.1, hb.2⟩, ?_⟩
  by_cases h0 : i = 0
  · exact .inl h0
  · right
    rw [nth_eq (List.getElem?_eq_getElem (show i - 1 < l.length by omega))]
    exact List.pairwise_iff_getElem.1 h2 (i - 1) i (by omega) hi (by omega)
set_option maxHeartbeats 4000000 in
theorem sortedC_ok (n : Int) (hn : 0 ≤ n ∧ n ≤ 1000) : Good Try.prog TT true 15 [.tape, .int .i64 n] (fun r => ∃ l, r = ints l ∧ choiceB l n.toNat = true) := by
  refine good_of mixed tabOk Try.func15 rfl rfl Try.ntmps15 Try.results15 rfl rfl ?_
  (conv => whnf); (repeat' (first | (refine arith_i ⟨by omega, by omega⟩ ?_; conv => whnf) | (refine arith_u ⟨by omega, by omega⟩ ?_; conv => whnf) | (refine arith_8 ⟨by omega, by omega⟩ ?_; conv => whnf) | (refine need_i (by first | omega | (simp only [List.length_cons, List.length_nil]; omega) | (simp only [List.length_append, List.length_cons, List.length_nil, List.length_map, List.length_replicate, List.length_modify]; omega)) ?_; conv => whnf) | ((with_reducible refine branch_tt ?_); conv => whnf) | ((with_reducible refine branch_ff ?_); conv => whnf) | (with_reducible refine branch_not ?_) | (((refine call_i (next_ok _ (by omega)) fun r hr => ?_; obtain ⟨m1, rfl, -, h6⟩ := hr; have hm1 := h6 (by omega))); conv => whnf) | ((with_reducible refine slc_e ?_); conv => whnf) | ((with_reducible refine callS_a ?_); conv => whnf) | ((with_reducible refine bld_a ?_); conv => whnf) | ((with_reducible refine own_e ?_); conv => whnf) | ((with_reducible refine mkmap_b ?_); conv => whnf) | ((with_reducible refine branch_d (fun hq => ?_) (fun hq => ?_)) <;> (try (exfalso; omega)) <;> (conv => whnf)) | ((with_reducible refine branch_e (fun hq => ?_) (fun hq => ?_)) <;> (try (exfalso; omega)) <;> (conv => whnf)) | ((with_reducible refine branch_n (fun hq => ?_) (fun hq => ?_)) <;> (try (exfalso; omega)) <;> (conv => whnf)) | ((with_reducible refine branch_i (fun hq => ?_) (fun hq => ?_)) <;> (try (exfalso; omega)) <;> (conv => whnf))))
  refine loop_i2 (fun (k : Nat) (l : List Int) => (k : Int) ≤ n ∧ l.length ≤ k ∧ (∀ c ∈ l, 0 ≤ c ∧ c < k) ∧ l.Pairwise (· < ·)) (fun k l => mkSt [(0, .tape), (1, .int .i64 n), (5, .own 900 3 1 (l.map encI)), (6, .int .i64 k)] [] true) (fun k _ => n.toNat - k) 0 [] ⟨by omega, by simp, by simp, List.Pairwise.nil⟩ (Le.trans (le_adopt 5 900 3 1 rfl) (le_mk (by repeat' (first | exact trivial | rfl | apply And.intro)) (by repeat' (first | exact trivial | rfl | apply And.intro)) rfl)) ?_
  rintro k l ⟨hk, hl, hb, hp⟩
  have LL : (l.map encI).length = l.length := List.length_map ..
  (conv => whnf); (repeat' (first | (refine arith_i ⟨by omega, by omega⟩ ?_; conv => whnf) | (refine arith_u ⟨by omega, by omega⟩ ?_; conv => whnf) | (refine arith_8 ⟨by omega, by omega⟩ ?_; conv => whnf) | (refine need_i (by first | omega | (simp only [List.length_cons, List.length_nil]; omega) | (simp only [List.length_append, List.length_cons, List.length_nil, List.length_map, List.length_replicate, List.length_modify]; omega)) ?_; conv => whnf) | ((with_reducible refine branch_tt ?_); conv => whnf) | ((with_reducible refine branch_ff ?_); conv => whnf) | (with_reducible refine branch_not ?_) | (((refine call_i (next_ok _ (by omega)) fun r hr => ?_; obtain ⟨m1, rfl, -, h6⟩ := hr; have hm1 := h6 (by omega))); conv => whnf) | ((with_reducible refine slc_e ?_); conv => whnf) | ((with_reducible refine callS_a ?_); conv => whnf) | ((with_reducible refine bld_a ?_); conv => whnf) | ((with_reducible refine own_e ?_); conv => whnf) | ((with_reducible refine mkmap_b ?_); conv => whnf) | ((with_reducible refine branch_d (fun hq => ?_) (fun hq => ?_)) <;> (try (exfalso; omega)) <;> (conv => whnf)) | ((with_reducible refine branch_e (fun hq => ?_) (fun hq => ?_)) <;> (try (exfalso; omega)) <;> (conv => whnf)) | ((with_reducible refine branch_n (fun hq => ?_) (fun hq => ?_)) <;> (try (exfalso; omega)) <;> (conv => whnf)) | ((with_reducible refine branch_i (fun hq => ?_) (fun hq => ?_)) <;> (try (exfalso; omega)) <;> (conv => whnf))))
  · refine ⟨k + 1, l ++ [(k : Int)], ⟨by omega, by simp; omega, fun c hc => ?_, ?_⟩, by rw [← snocI']; exact (le_mk (by repeat' (first | exact trivial | rfl | apply And.intro)) (by repeat' (first | exact trivial | rfl | apply And.intro)) rfl), by omega⟩
    · rcases List.mem_append.1 hc with hc | hc
      · have := hb c hc; omega
      · rw [List.mem_singleton.1 hc]; omega
    · refine List.pairwise_append.2 ⟨hp, by simp, fun a ha b hb' => ?_⟩
      rw [List.mem_singleton.1 hb']
      exact (hb a ha).2
  · exact ⟨k + 1, l, ⟨by omega, by omega, fun c hc => by have := hb c hc; omega, hp⟩, (le_mk (by repeat' (first | exact trivial | rfl | apply And.intro)) (by repeat' (first | exact trivial | rfl | apply And.intro)) rfl), by omega⟩
  · exact ret_ol ⟨l, rfl, choice_mk (fun c hc => by have := hb c hc; omega) hp⟩
theorem prts_at {l : List Itm} {k q : Nat} {x : Itm} (h : l[k]? = some x) (hq : q < x.parts.length) : (prtsOf l)[(prtsOf (l.take k)).length + q]? = x.parts[q]? := by
  have e : prtsOf l = prtsOf (l.take (k + 1)) ++ prtsOf (l.drop (k + 1)) := by
    rw [prtsOf, prtsOf, prtsOf, ← List.flatMap_append, List.take_append_drop]
  rw [e, prts_next h, List.append_assoc, List.getElem?_append_right (by omega)]
  rw [List.getElem?_append_left (by omega)]
  congr 1; omega
def PairOk (items : List Itm) (x y : List Int) (p : Int × Int) : Prop := ∃ (A B : Nat) (pt : Prt), p = ((A : Int), (B : Int)) ∧ (prtsOf (chosenF items x))[A]? = some pt ∧ (prtsOf (chosenF items y))[B]? = some pt
theorem pair_ok {items : List Itm} {x y : List Int} (hx : choiceB x items.length = true) (hy : choiceB y items.length = true) {i : Nat} {p : Int × Int} (h : p ∈ pairsAt items x y i) : PairOk items x y p ∧ offAt items x i ≤ p.1 ∧ p.1 < offAt items x (i + 1) := by
  unfold pairsAt at h
  split at h
  · next a ha =>
    split at h
    · next hm =>
      obtain ⟨k, hk, rfl⟩ := List.mem_map.1 h
      have hk := List.mem_range.1 hk
      have hab := choice_elt hx ha
      obtain ⟨it, hit⟩ : ∃ it, items[a.toNat]? = some it := ⟨_, List.getElem?_eq_getElem (by omega)⟩
      have hpn : partsN items a = it.parts.length := by rw [partsN, hit]
      rw [hpn] at hk
      have hjl := List.idxOf_lt_length_iff.2 hm
      have hj : y[y.idxOf a]? = some a := by rw [List.getElem?_eq_getElem hjl]; simp
      have c1 := chosen_at ha hit
      have c2 := chosen_at hj hit
      refine ⟨⟨(prtsOf ((chosenF items x).take i)).length + k, (prtsOf ((chosenF items y).take (y.idxOf a))).length + k, it.parts[k], ?_, ?_, ?_⟩, ?_, ?_⟩
      · simp [offAt]
      · rw [prts_at c1 hk, List.getElem?_eq_getElem hk]
      · rw [prts_at c2 hk, List.getElem?_eq_getElem hk]
      · show offAt items x i ≤ offAt items x i + (k : Int)
        omega
      · rw [offAt_next c1]
        show offAt items x i + (k : Int) < _
        omega
    · simp at h
  · simp at h
theorem pairs_asc {items : List Itm} {x y : List Int} (hx : choiceB x items.length = true) (hy : choiceB y items.length = true) : ∀ i, (∀ p ∈ pairsTo items x y i, PairOk items x y p ∧ p.1 < offAt items x i) ∧ (pairsTo items x y i).Pairwise fun p q => p.1 < q.1
  | 0 => ⟨by simp [pairsTo], by simp [pairsTo]⟩
  | i + 1 => by
    obtain ⟨h1, h2⟩ := pairs_asc hx hy i
    have hmono : offAt items x i ≤ offAt items x (i + 1) := by
      unfold offAt
      by_cases h : i < (chosenF items x).length
      · rw [prts_next (List.getElem?_eq_getElem h), List.length_append]; omega
      · rw [List.take_of_length_le (by omega), List.take_of_length_le (by omega)]; exact Int.le_refl _
    rw [pairsTo_next]
    refine ⟨fun p hp => ?_, List.pairwise_append.2 ⟨h2, ?_, fun p hp q hq => ?_⟩⟩
    · rcases List.mem_append.1 hp with hp | hp
      · have := h1 p hp; exact ⟨this.1, by omega⟩
      · have := pair_ok hx hy hp; exact ⟨this.1, this.2.2⟩
    · unfold pairsAt
      split
      · split
        · unfold pairsK
          rw [List.pairwise_map]
          refine List.Pairwise.imp ?_ List.pairwise_lt_range
          intro a b hab
          show _ + (a : Int) < _ + (b : Int)
          omega
        · exact List.Pairwise.nil
      · exact List.Pairwise.nil
    · have := (h1 p hp).2
      have := (pair_ok hx hy hq).2.1
      omega
theorem okI_all {items : List Itm} {ch : List Int} (h : choiceB ch items.length = true) (hg : ∀ x ∈ items, itemF x = 0) : okIB items ch = true := okI_good h fun i x hi hx => by
  obtain ⟨c, hcc⟩ : ∃ c, ch[i]? = some c := ⟨_, List.getElem?_eq_getElem hi⟩
  have hcb := choice_elt h hcc
  obtain ⟨y, hy⟩ : ∃ y, items[c.toNat]? = some y := ⟨_, List.getElem?_eq_getElem (by omega)⟩
  rw [chosen_at hcc hy] at hx
  injection hx with hx
  subst hx
  exact hg y (List.mem_of_getElem? hy)
def plParts : Plan := (.take 0 (.take 1 (.take 2 (.take 3 (.take 4 (.take 5 (.take 6 (.take 7 (.take 8 (.take 9 (.take 10 (.take 11 (.take 12 (.take 13 (.take 14 (.take 15 (.take 16 (.take 17 (.take 18 (.take 19 (.take 20 (.take 21 (.take 22 (.take 23 (.take 24 (.take 25 (.take 26 (.take 27 (.take 28 (.take 29 (.take 30 (.take 31 (.take 32 (.take 33 (.take 34 (.take 35 (.take 36 (.take 37 (.take 38 (.take 39 (.take 40 (.take 41 (.take 42 (.take 43 (.take 44 (.take 45 (.take 46 (.take 47 (.take 48 (.take 49 (.take 50 (.take 51 (.take 52 (.take 53 (.take 54 (.alt 55 (.take 56 (.take 57 (.take 58 (.take 59 (.take 60 (.take 61 (.take 62 (.take 63 (.take 64 (.take 65 (.take 67 (.take 68 (.take 69 (.take 70 (.takeQ 66 (.takeQ 71 (.take 72 (.take 73 (.take 74 .done))))))))))))))))))) .stop))))))))))))))))))))))))))))))))))))))))))))))))))))))))
set_option maxHeartbeats 8000000 in
theorem parts_law (xs : List Int) (hx : xs.length ≤ 9223372036854775807) : Good Try.prog TT false 8 [ints xs] (· = .bool true) := by
  refine good_of mixed tabOk Try.func8 rfl rfl Try.ntmps8 Try.results8 rfl rfl ?_
  (conv => whnf); (repeat' (first | (refine arith_i ⟨by omega, by omega⟩ ?_; conv => whnf) | (refine arith_u ⟨by omega, by omega⟩ ?_; conv => whnf) | (refine arith_8 ⟨by omega, by omega⟩ ?_; conv => whnf) | (refine need_i (by first | omega | (simp only [List.length_cons, List.length_nil]; omega) | (simp only [List.length_append, List.length_cons, List.length_nil, List.length_map, List.length_replicate, List.length_modify]; omega)) ?_; conv => whnf) | ((with_reducible refine branch_tt ?_); conv => whnf) | ((with_reducible refine branch_ff ?_); conv => whnf) | (with_reducible refine branch_not ?_) | ((refine call_e (new_ok xs hx) ?_); conv => whnf) | (((refine call_i (items_ok 6 (by omega)) fun r hr => ?_; obtain ⟨l, rfl, hl, hg⟩ := hr; have LL : (l.map encX).length = l.length := List.length_map ..; have hL : l.length ≤ 100 := (by omega); have hS : ∀ y ∈ l, ItmS y := fun y hy => (hg y hy).1)); conv => whnf) | ((with_reducible refine slc_e ?_); conv => whnf) | ((with_reducible refine callS_a ?_); conv => whnf) | ((with_reducible refine bld_a ?_); conv => whnf) | ((with_reducible refine own_e ?_); conv => whnf) | ((with_reducible refine mkmap_b ?_); conv => whnf) | (refine draw_i 75 plGL11p_0 (by decide +kernel) ?_; (conv => whnf); fail_if_success (guard_target =~ False)) | ((with_reducible refine And.intro ?_ ?_) <;> (conv => whnf)) | (with_reducible exact trivial) | ((with_reducible refine branch_d (fun hq => ?_) (fun hq => ?_)) <;> (try (exfalso; omega)) <;> (conv => whnf)) | ((with_reducible refine branch_e (fun hq => ?_) (fun hq => ?_)) <;> (try (exfalso; omega)) <;> (conv => whnf)) | ((with_reducible refine branch_n (fun hq => ?_) (fun hq => ?_)) <;> (try (exfalso; omega)) <;> (conv => whnf)) | ((with_reducible refine branch_i (fun hq => ?_) (fun hq => ?_)) <;> (try (exfalso; omega)) <;> (conv => whnf))))
  refine call_i (sortedC_ok _ (by omega)) fun r hr => ?_
  obtain ⟨x, rfl, hcx⟩ := hr
  (conv => whnf); (repeat' (first | (refine arith_i ⟨by omega, by omega⟩ ?_; conv => whnf) | (refine arith_u ⟨by omega, by omega⟩ ?_; conv => whnf) | (refine arith_8 ⟨by omega, by omega⟩ ?_; conv => whnf) | (refine need_i (by first | omega | (simp only [List.length_cons, List.length_nil]; omega) | (simp only [List.length_append, List.length_cons, List.length_nil, List.length_map, List.length_replicate, List.length_modify]; omega)) ?_; conv => whnf) | ((with_reducible refine branch_tt ?_); conv => whnf) | ((with_reducible refine branch_ff ?_); conv => whnf) | (with_reducible refine branch_not ?_) | ((with_reducible refine slc_e ?_); conv => whnf) | ((with_reducible refine callS_a ?_); conv => whnf) | ((with_reducible refine bld_a ?_); conv => whnf) | ((with_reducible refine own_e ?_); conv => whnf) | ((with_reducible refine mkmap_b ?_); conv => whnf) | (refine draw_i 75 plGL11p_0 (by decide +kernel) ?_; (conv => whnf); fail_if_success (guard_target =~ False)) | ((with_reducible refine And.intro ?_ ?_) <;> (conv => whnf)) | (with_reducible exact trivial) | ((with_reducible refine branch_d (fun hq => ?_) (fun hq => ?_)) <;> (try (exfalso; omega)) <;> (conv => whnf)) | ((with_reducible refine branch_e (fun hq => ?_) (fun hq => ?_)) <;> (try (exfalso; omega)) <;> (conv => whnf)) | ((with_reducible refine branch_n (fun hq => ?_) (fun hq => ?_)) <;> (try (exfalso; omega)) <;> (conv => whnf)) | ((with_reducible refine branch_i (fun hq => ?_) (fun hq => ?_)) <;> (try (exfalso; omega)) <;> (conv => whnf))))
  refine call_i (sortedC_ok _ (by omega)) fun r hr => ?_
  obtain ⟨y, rfl, hcy⟩ := hr
  rw [LL, Int.toNat_natCast] at hcx hcy
  have hxl := choice_len hcx
  have hyl := choice_len hcy
  (conv => whnf); (repeat' (first | (refine arith_i ⟨by omega, by omega⟩ ?_; conv => whnf) | (refine arith_u ⟨by omega, by omega⟩ ?_; conv => whnf) | (refine arith_8 ⟨by omega, by omega⟩ ?_; conv => whnf) | (refine need_i (by first | omega | (simp only [List.length_cons, List.length_nil]; omega) | (simp only [List.length_append, List.length_cons, List.length_nil, List.length_map, List.length_replicate, List.length_modify]; omega)) ?_; conv => whnf) | ((with_reducible refine branch_tt ?_); conv => whnf) | ((with_reducible refine branch_ff ?_); conv => whnf) | (with_reducible refine branch_not ?_) | ((refine call_e (paperP_at rfl hL hS (by omega)) ?_); conv => whnf) | ((refine call_e (comP_at rfl hL hS (by omega) (by omega)) ?_); conv => whnf) | ((with_reducible refine slc_e ?_); conv => whnf) | ((with_reducible refine callS_a ?_); conv => whnf) | ((with_reducible refine bld_a ?_); conv => whnf) | ((with_reducible refine own_e ?_); conv => whnf) | ((with_reducible refine mkmap_b ?_); conv => whnf) | (refine draw_i 75 plGL11p_0 (by decide +kernel) ?_; (conv => whnf); fail_if_success (guard_target =~ False)) | ((with_reducible refine And.intro ?_ ?_) <;> (conv => whnf)) | (with_reducible exact trivial) | ((with_reducible refine branch_d (fun hq => ?_) (fun hq => ?_)) <;> (try (exfalso; omega)) <;> (conv => whnf)) | ((with_reducible refine branch_e (fun hq => ?_) (fun hq => ?_)) <;> (try (exfalso; omega)) <;> (conv => whnf)) | ((with_reducible refine branch_n (fun hq => ?_) (fun hq => ?_)) <;> (try (exfalso; omega)) <;> (conv => whnf)) | ((with_reducible refine branch_i (fun hq => ?_) (fun hq => ?_)) <;> (try (exfalso; omega)) <;> (conv => whnf))))
  have hokx := okI_all hcx fun y hy => (hg y hy).2
  have hoky := okI_all hcy fun y hy => (hg y hy).2
  have hcom : comL l x y = pairsTo l x y x.length := by rw [comL, if_pos ⟨hokx, hoky⟩]
  rw [hcom]
  refine loop_i (fun i : Nat => i ≤ x.length) (fun i => mkSt [(4, .lst 5 (l.map encX)), (5, ints x), (6, ints y), (7, .ptr 7 0), (8, .int .i64 (papE l x 0 0)), (9, .ptr 9 0), (10, .int .i64 (papE l y 0 1)), (11, .lst 2 ((pairsTo l x y x.length).map encRef)), (12, .int .i64 (pairsTo l x y i).length), (13, .int .i64 i)] [(7, [.int .i64 (papC l x 0 0), .int .i64 (papVr l x 0 0), .lst 6 ((papPs l x 0 0).map encPt)]), (9, [.int .i64 (papC l y 0 1), .int .i64 (papVr l y 0 1), .lst 6 ((papPs l y 0 1).map encPt)])] true) (fun i => x.length - i) 0 (Nat.zero_le _) (le_mk (by repeat' (first | exact trivial | rfl | apply And.intro)) (by repeat' (first | exact trivial | rfl | apply And.intro)) rfl) ?_
  intro i hi
  have LX : (x.map encI).length = x.length := List.length_map ..
  have hpl := pairsTo_len hS (x := x) (y := y) i
  rcases Nat.lt_or_ge i x.length with hix | hix
  · obtain ⟨a, ha⟩ : ∃ a, x[i]? = some a := ⟨_, List.getElem?_eq_getElem hix⟩
    have hab := choice_elt hcx ha
    obtain ⟨it, hit⟩ : ∃ it, l[a.toNat]? = some it := ⟨_, List.getElem?_eq_getElem (by omega)⟩
    have hpn : partsN l a = it.parts.length := by rw [partsN, hit]
    have LQ : (it.parts.map encPt).length = it.parts.length := List.length_map ..
    have hil := (hS it (List.mem_of_getElem? hit)).2.1
    by_cases hm : a ∈ y
    · (conv => whnf); (repeat' (first | (refine arith_i ⟨by omega, by omega⟩ ?_; conv => whnf) | (refine arith_u ⟨by omega, by omega⟩ ?_; conv => whnf) | (refine arith_8 ⟨by omega, by omega⟩ ?_; conv => whnf) | (refine need_i (by first | omega | (simp only [List.length_cons, List.length_nil]; omega) | (simp only [List.length_append, List.length_cons, List.length_nil, List.length_map, List.length_replicate, List.length_modify]; omega)) ?_; conv => whnf) | ((with_reducible refine branch_tt ?_); conv => whnf) | ((with_reducible refine branch_ff ?_); conv => whnf) | (with_reducible refine branch_not ?_) | ((refine idx_cs ha ?_); conv => whnf) | ((refine call_e ((has_any11 y a (by omega)).mono fun r h => h.trans (by rw [hasB_iff.2 hm])) ?_); conv => whnf) | ((refine idx_ms (by omega) hit ?_); conv => whnf) | ((with_reducible refine slc_e ?_); conv => whnf) | ((with_reducible refine callS_a ?_); conv => whnf) | ((with_reducible refine bld_a ?_); conv => whnf) | ((with_reducible refine own_e ?_); conv => whnf) | ((with_reducible refine mkmap_b ?_); conv => whnf) | (refine draw_i 75 plGL11p_0 (by decide +kernel) ?_; (conv => whnf); fail_if_success (guard_target =~ False)) | ((with_reducible refine And.intro ?_ ?_) <;> (conv => whnf)) | (with_reducible exact trivial) | ((with_reducible refine branch_d (fun hq => ?_) (fun hq => ?_)) <;> (try (exfalso; omega)) <;> (conv => whnf)) | ((with_reducible refine branch_e (fun hq => ?_) (fun hq => ?_)) <;> (try (exfalso; omega)) <;> (conv => whnf)) | ((with_reducible refine branch_n (fun hq => ?_) (fun hq => ?_)) <;> (try (exfalso; omega)) <;> (conv => whnf)) | ((with_reducible refine branch_i (fun hq => ?_) (fun hq => ?_)) <;> (try (exfalso; omega)) <;> (conv => whnf))))
      have e1 : (((pairsTo l x y (i + 1)).length : Nat) : Int) = (pairsTo l x y i).length + (it.parts.map encPt).length := by
        rw [pairsTo_next, pairsAt_in ha hm, List.length_append, LQ, hpn]; simp [pairsK]
      exact ⟨i + 1, by omega, le_mk ⟨rfl, rfl, rfl, rfl, rfl, rfl, rfl, rfl, int_eq e1.symm, rfl, trivial⟩ ⟨rfl, rfl, trivial⟩ rfl, by omega⟩
    · (conv => whnf); (repeat' (first | (refine arith_i ⟨by omega, by omega⟩ ?_; conv => whnf) | (refine arith_u ⟨by omega, by omega⟩ ?_; conv => whnf) | (refine arith_8 ⟨by omega, by omega⟩ ?_; conv => whnf) | (refine need_i (by first | omega | (simp only [List.length_cons, List.length_nil]; omega) | (simp only [List.length_append, List.length_cons, List.length_nil, List.length_map, List.length_replicate, List.length_modify]; omega)) ?_; conv => whnf) | ((with_reducible refine branch_tt ?_); conv => whnf) | ((with_reducible refine branch_ff ?_); conv => whnf) | (with_reducible refine branch_not ?_) | ((refine idx_cs ha ?_); conv => whnf) | ((refine call_e ((has_any11 y a (by omega)).mono fun r h => h.trans (by rw [show hasB y a = false by cases hh : hasB y a with | false => rfl | true => exact absurd (hasB_iff.1 hh) hm])) ?_); conv => whnf) | ((with_reducible refine slc_e ?_); conv => whnf) | ((with_reducible refine callS_a ?_); conv => whnf) | ((with_reducible refine bld_a ?_); conv => whnf) | ((with_reducible refine own_e ?_); conv => whnf) | ((with_reducible refine mkmap_b ?_); conv => whnf) | (refine draw_i 75 plGL11p_0 (by decide +kernel) ?_; (conv => whnf); fail_if_success (guard_target =~ False)) | ((with_reducible refine And.intro ?_ ?_) <;> (conv => whnf)) | (with_reducible exact trivial) | ((with_reducible refine branch_d (fun hq => ?_) (fun hq => ?_)) <;> (try (exfalso; omega)) <;> (conv => whnf)) | ((with_reducible refine branch_e (fun hq => ?_) (fun hq => ?_)) <;> (try (exfalso; omega)) <;> (conv => whnf)) | ((with_reducible refine branch_n (fun hq => ?_) (fun hq => ?_)) <;> (try (exfalso; omega)) <;> (conv => whnf)) | ((with_reducible refine branch_i (fun hq => ?_) (fun hq => ?_)) <;> (try (exfalso; omega)) <;> (conv => whnf))))
      have e1 : pairsTo l x y (i + 1) = pairsTo l x y i := by rw [pairsTo_next, pairsAt_out ha hm, List.append_nil]
      exact ⟨i + 1, by omega, by rw [e1]; exact (le_mk (by repeat' (first | exact trivial | rfl | apply And.intro)) (by repeat' (first | exact trivial | rfl | apply And.intro)) rfl), by omega⟩
  obtain rfl : i = x.length := by omega
  have LP : ((pairsTo l x y x.length).map encRef).length = (pairsTo l x y x.length).length := List.length_map ..
  (conv => whnf); (repeat' (first | (refine arith_i ⟨by omega, by omega⟩ ?_; conv => whnf) | (refine arith_u ⟨by omega, by omega⟩ ?_; conv => whnf) | (refine arith_8 ⟨by omega, by omega⟩ ?_; conv => whnf) | (refine need_i (by first | omega | (simp only [List.length_cons, List.length_nil]; omega) | (simp only [List.length_append, List.length_cons, List.length_nil, List.length_map, List.length_replicate, List.length_modify]; omega)) ?_; conv => whnf) | ((with_reducible refine branch_tt ?_); conv => whnf) | ((with_reducible refine branch_ff ?_); conv => whnf) | (with_reducible refine branch_not ?_) | ((refine call_e awake11_ok ?_); conv => whnf) | ((with_reducible refine slc_e ?_); conv => whnf) | ((with_reducible refine callS_a ?_); conv => whnf) | ((with_reducible refine bld_a ?_); conv => whnf) | ((with_reducible refine own_e ?_); conv => whnf) | ((with_reducible refine mkmap_b ?_); conv => whnf) | (refine draw_i 75 plGL11p_0 (by decide +kernel) ?_; (conv => whnf); fail_if_success (guard_target =~ False)) | ((with_reducible refine And.intro ?_ ?_) <;> (conv => whnf)) | (with_reducible exact trivial) | ((with_reducible refine branch_d (fun hq => ?_) (fun hq => ?_)) <;> (try (exfalso; omega)) <;> (conv => whnf)) | ((with_reducible refine branch_e (fun hq => ?_) (fun hq => ?_)) <;> (try (exfalso; omega)) <;> (conv => whnf)) | ((with_reducible refine branch_n (fun hq => ?_) (fun hq => ?_)) <;> (try (exfalso; omega)) <;> (conv => whnf)) | ((with_reducible refine branch_i (fun hq => ?_) (fun hq => ?_)) <;> (try (exfalso; omega)) <;> (conv => whnf))))
  all_goals try exact ret_p rfl rfl
  have p1 : papPs l x 0 0 = prtsOf (chosenF l x) := by rw [papPs, if_pos (by assumption)]
  have p2 : papPs l y 0 1 = prtsOf (chosenF l y) := by rw [papPs, if_pos (by assumption)]
  have LA : ((prtsOf (chosenF l x)).map encPt).length = (prtsOf (chosenF l x)).length := List.length_map ..
  have LB : ((prtsOf (chosenF l y)).map encPt).length = (prtsOf (chosenF l y)).length := List.length_map ..
  obtain ⟨hpo, hpw⟩ := pairs_asc hcx hcy x.length
  have hbx := prts_small hL hS hcx
  have hby := prts_small hL hS hcy
  rw [p1, p2]
  refine loop_i (fun k : Nat => k ≤ (pairsTo l x y x.length).length) (fun k => mkSt [(7, .ptr 7 0), (9, .ptr 9 0), (11, .lst 2 ((pairsTo l x y x.length).map encRef)), (14, .int .i64 k)] [(7, [.int .i64 (papC l x 0 0), .int .i64 (papVr l x 0 0), .lst 6 ((prtsOf (chosenF l x)).map encPt)]), (9, [.int .i64 (papC l y 0 1), .int .i64 (papVr l y 0 1), .lst 6 ((prtsOf (chosenF l y)).map encPt)])] true) (fun k => (pairsTo l x y x.length).length - k) 0 (Nat.zero_le _) (le_mk (by repeat' (first | exact trivial | rfl | apply And.intro)) (by repeat' (first | exact trivial | rfl | apply And.intro)) rfl) ?_
  intro k hk
  rcases Nat.lt_or_ge k (pairsTo l x y x.length).length with hkl | hkl
  · obtain ⟨p, hp⟩ : ∃ p, (pairsTo l x y x.length)[k]? = some p := ⟨_, List.getElem?_eq_getElem hkl⟩
    obtain ⟨⟨A, B, pt, rfl, hA, hB⟩, -⟩ := hpo p (List.mem_of_getElem? hp)
    have hAl := (List.getElem?_eq_some_iff.1 hA).1
    have hBl := (List.getElem?_eq_some_iff.1 hB).1
    have hprev : ∀ q, (pairsTo l x y x.length)[((k : Int) - 1).toNat]? = some q → 0 < k → q.1 < (A : Int) := fun q hq h0 => by
      have e1 := List.getElem?_eq_some_iff.1 hq
      have e2 := List.getElem?_eq_some_iff.1 hp
      have := List.pairwise_iff_getElem.1 hpw _ k e1.1 e2.1 (by omega)
      rw [e1.2, e2.2] at this
      exact this
    (conv => whnf); (repeat' (first | (refine arith_i ⟨by omega, by omega⟩ ?_; conv => whnf) | (refine arith_u ⟨by omega, by omega⟩ ?_; conv => whnf) | (refine arith_8 ⟨by omega, by omega⟩ ?_; conv => whnf) | (refine need_i (by first | omega | (simp only [List.length_cons, List.length_nil]; omega) | (simp only [List.length_append, List.length_cons, List.length_nil, List.length_map, List.length_replicate, List.length_modify]; omega)) ?_; conv => whnf) | ((with_reducible refine branch_tt ?_); conv => whnf) | ((with_reducible refine branch_ff ?_); conv => whnf) | (with_reducible refine branch_not ?_) | ((refine draw_i 75 plParts (by decide +kernel) ?_); conv => whnf) | ((((with_reducible refine And.intro ?_ ?_) <;> (conv => whnf))); conv => whnf) | (((with_reducible exact trivial)); conv => whnf) | ((refine idx_cs hp ?_); conv => whnf) | ((refine idx_cs hA ?_); conv => whnf) | ((refine idx_cs hB ?_); conv => whnf) | ((refine eq_i guard_part (fun w => eq_part pt w) ?_); conv => whnf) | (((refine idx_m (xs := pairsTo l x y x.length) (by omega) (by omega) fun q hq' => ?_; have hqp := hprev q hq' (by omega))); conv => whnf) | ((with_reducible refine slc_e ?_); conv => whnf) | ((with_reducible refine callS_a ?_); conv => whnf) | ((with_reducible refine bld_a ?_); conv => whnf) | ((with_reducible refine own_e ?_); conv => whnf) | ((with_reducible refine mkmap_b ?_); conv => whnf) | ((with_reducible refine branch_d (fun hq => ?_) (fun hq => ?_)) <;> (try (exfalso; omega)) <;> (conv => whnf)) | ((with_reducible refine branch_e (fun hq => ?_) (fun hq => ?_)) <;> (try (exfalso; omega)) <;> (conv => whnf)) | ((with_reducible refine branch_n (fun hq => ?_) (fun hq => ?_)) <;> (try (exfalso; omega)) <;> (conv => whnf)) | ((with_reducible refine branch_i (fun hq => ?_) (fun hq => ?_)) <;> (try (exfalso; omega)) <;> (conv => whnf))))
    all_goals first
      | exact trivial
      | exact ⟨k + 1, by omega, (le_mk (by repeat' (first | exact trivial | rfl | apply And.intro)) (by repeat' (first | exact trivial | rfl | apply And.intro)) rfl), by omega⟩
  · (conv => whnf); (repeat' (first | (refine arith_i ⟨by omega, by omega⟩ ?_; conv => whnf) | (refine arith_u ⟨by omega, by omega⟩ ?_; conv => whnf) | (refine arith_8 ⟨by omega, by omega⟩ ?_; conv => whnf) | (refine need_i (by first | omega | (simp only [List.length_cons, List.length_nil]; omega) | (simp only [List.length_append, List.length_cons, List.length_nil, List.length_map, List.length_replicate, List.length_modify]; omega)) ?_; conv => whnf) | ((with_reducible refine branch_tt ?_); conv => whnf) | ((with_reducible refine branch_ff ?_); conv => whnf) | (with_reducible refine branch_not ?_) | ((refine call_e awake11_ok ?_); conv => whnf) | ((with_reducible refine slc_e ?_); conv => whnf) | ((with_reducible refine callS_a ?_); conv => whnf) | ((with_reducible refine bld_a ?_); conv => whnf) | ((with_reducible refine own_e ?_); conv => whnf) | ((with_reducible refine mkmap_b ?_); conv => whnf) | (refine draw_i 75 plGL11p_0 (by decide +kernel) ?_; (conv => whnf); fail_if_success (guard_target =~ False)) | ((with_reducible refine And.intro ?_ ?_) <;> (conv => whnf)) | (with_reducible exact trivial) | ((with_reducible refine branch_d (fun hq => ?_) (fun hq => ?_)) <;> (try (exfalso; omega)) <;> (conv => whnf)) | ((with_reducible refine branch_e (fun hq => ?_) (fun hq => ?_)) <;> (try (exfalso; omega)) <;> (conv => whnf)) | ((with_reducible refine branch_n (fun hq => ?_) (fun hq => ?_)) <;> (try (exfalso; omega)) <;> (conv => whnf)) | ((with_reducible refine branch_i (fun hq => ?_) (fun hq => ?_)) <;> (try (exfalso; omega)) <;> (conv => whnf))))
    exact ret_p rfl rfl
end Go.Proofs.Ytiionjpinainlaa
end

/- Layer 11: Apart, of the program and of the reference. -/
section
namespace Go.Proofs.Ytiionjpinainlaa
set_option linter.unusedVariables false
set_option linter.unusedSimpArgs false
set_option linter.unnecessarySimpa false
set_option linter.unusedSectionVars false
set_option maxRecDepth 10000
open Go.RowKit
set_option maxRecDepth 100000 in
theorem zero_bool11 (w : World) : (zeroValue 4).run Try.prog w = .ok (.bool false) w := by
  have h : (Try.prog.info? 4).bind (·.zero) = some (.bool false) := by kernel_rfl
  obtain ⟨i, hi, hz⟩ := Option.bind_eq_some_iff.1 h
  simp [zeroValue, typeInfo, hi, hz]
set_option maxRecDepth 100000 in
theorem zero_int11 (w : World) : (zeroValue 3).run Try.prog w = .ok (.int .i64 0) w := by
  have h : (Try.prog.info? 3).bind (·.zero) = some (.int .i64 0) := by kernel_rfl
  obtain ⟨i, hi, hz⟩ := Option.bind_eq_some_iff.1 h
  simp [zeroValue, typeInfo, hi, hz]
theorem map_tb {A : Prop} (h : A) : mapTy Try.prog 90 (.bool false) A := map_i Try.underlying90 Try.underlying3 zero_bool11 h
theorem map_tn {A : Prop} (h : A) : mapTy Try.prog 91 (.int .i64 0) A := map_i Try.underlying91 Try.underlying3 zero_int11 h
set_option maxHeartbeats 4000000 in
theorem apart_ok (cs : List (List Int)) (an : List Int) (h1 : cs.length ≤ 1000) (h2 : an.length ≤ 1000000) (h3 : ∀ l ∈ cs, l.length ≤ 9223372036854775807) : Good Try.prog TT false 20 [.lst 1 (cs.map encS), ints an] (AptR cs an) := by
  have LC : (cs.map encS).length = cs.length := List.length_map ..
  have LN : (an.map encI).length = an.length := List.length_map ..
  refine good_of mixed tabOk Try.func20 rfl rfl Try.ntmps20 Try.results20 rfl rfl ?_
  (conv => whnf); (repeat' (first | (refine arith_i ⟨by omega, by omega⟩ ?_; conv => whnf) | (refine arith_u ⟨by omega, by omega⟩ ?_; conv => whnf) | (refine arith_8 ⟨by omega, by omega⟩ ?_; conv => whnf) | (refine need_i (by first | omega | (simp only [List.length_cons, List.length_nil]; omega) | (simp only [List.length_append, List.length_cons, List.length_nil, List.length_map, List.length_replicate, List.length_modify]; omega)) ?_; conv => whnf) | ((with_reducible refine branch_tt ?_); conv => whnf) | ((with_reducible refine branch_ff ?_); conv => whnf) | (with_reducible refine branch_not ?_) | ((refine map_tb ?_); conv => whnf) | ((refine map_tn ?_); conv => whnf) | ((with_reducible refine slc_e ?_); conv => whnf) | ((with_reducible refine callS_a ?_); conv => whnf) | ((with_reducible refine bld_a ?_); conv => whnf) | ((with_reducible refine own_e ?_); conv => whnf) | ((with_reducible refine mkmap_b ?_); conv => whnf) | ((with_reducible refine branch_d (fun hq => ?_) (fun hq => ?_)) <;> (try (exfalso; omega)) <;> (conv => whnf)) | ((with_reducible refine branch_e (fun hq => ?_) (fun hq => ?_)) <;> (try (exfalso; omega)) <;> (conv => whnf)) | ((with_reducible refine branch_n (fun hq => ?_) (fun hq => ?_)) <;> (try (exfalso; omega)) <;> (conv => whnf)) | ((with_reducible refine branch_i (fun hq => ?_) (fun hq => ?_)) <;> (try (exfalso; omega)) <;> (conv => whnf))))
  · exact ret_p rfl (apt_true (.inl (by omega)))
  have hc2 : ¬ cs.length < 2 := by omega
  refine loop_i2 (fun (k : Nat) (A : List (Int × Bool)) => k ≤ an.length ∧ SetM A (an.take k)) (fun k A => mkSt [(0, .lst 1 (cs.map encS)), (5, .mp 19 (.b A)), (20, ints an), (21, .int .i64 (an.map encI).length), (22, .int .i64 k)] [] false) (fun k _ => an.length - k) 0 [] ⟨Nat.zero_le _, SetM.nil⟩ (le_mk (by repeat' (first | exact trivial | rfl | apply And.intro)) (by repeat' (first | exact trivial | rfl | apply And.intro)) rfl) ?_
  rintro k A ⟨hk, hA⟩
  (conv => whnf); (repeat' (first | (refine arith_i ⟨by omega, by omega⟩ ?_; conv => whnf) | (refine arith_u ⟨by omega, by omega⟩ ?_; conv => whnf) | (refine arith_8 ⟨by omega, by omega⟩ ?_; conv => whnf) | (refine need_i (by first | omega | (simp only [List.length_cons, List.length_nil]; omega) | (simp only [List.length_append, List.length_cons, List.length_nil, List.length_map, List.length_replicate, List.length_modify]; omega)) ?_; conv => whnf) | ((with_reducible refine branch_tt ?_); conv => whnf) | ((with_reducible refine branch_ff ?_); conv => whnf) | (with_reducible refine branch_not ?_) | ((refine map_tb ?_); conv => whnf) | ((refine map_tn ?_); conv => whnf) | (((refine idx_c (xs := an) (by omega) fun a haa => ?_)); conv => whnf) | ((refine mkmap_n ?_); conv => whnf) | ((with_reducible refine slc_e ?_); conv => whnf) | ((with_reducible refine callS_a ?_); conv => whnf) | ((with_reducible refine bld_a ?_); conv => whnf) | ((with_reducible refine own_e ?_); conv => whnf) | ((with_reducible refine mkmap_b ?_); conv => whnf) | ((with_reducible refine branch_d (fun hq => ?_) (fun hq => ?_)) <;> (try (exfalso; omega)) <;> (conv => whnf)) | ((with_reducible refine branch_e (fun hq => ?_) (fun hq => ?_)) <;> (try (exfalso; omega)) <;> (conv => whnf)) | ((with_reducible refine branch_n (fun hq => ?_) (fun hq => ?_)) <;> (try (exfalso; omega)) <;> (conv => whnf)) | ((with_reducible refine branch_i (fun hq => ?_) (fun hq => ?_)) <;> (try (exfalso; omega)) <;> (conv => whnf))))
  · exact ⟨k + 1, mput a true A, ⟨by omega, by rw [take_next haa]; exact hA.put a⟩, (le_mk (by repeat' (first | exact trivial | rfl | apply And.intro)) (by repeat' (first | exact trivial | rfl | apply And.intro)) rfl), by omega⟩
  have hkk : an.take k = an := List.take_of_length_le (by omega)
  rw [hkk] at hA
  refine loop_i2 (fun (i : Nat) (O : List (Int × Int)) => i ≤ cs.length ∧ OwnM cs an i [] O ∧ AptTo cs an i) (fun i O => mkSt [(5, .mp 19 (.b A)), (8, .mp 29 (.i O)), (30, .lst 1 (cs.map encS)), (31, .int .i64 (cs.map encS).length), (32, .int .i64 i)] [] false) (fun i _ => cs.length - i) 0 [] ⟨Nat.zero_le _, OwnM.nil, fun i l hi => by omega⟩ (le_mk (by repeat' (first | exact trivial | rfl | apply And.intro)) (by repeat' (first | exact trivial | rfl | apply And.intro)) rfl) ?_
  rintro i O ⟨hi, hO, hT⟩
  (conv => whnf); (repeat' (first | (refine arith_i ⟨by omega, by omega⟩ ?_; conv => whnf) | (refine arith_u ⟨by omega, by omega⟩ ?_; conv => whnf) | (refine arith_8 ⟨by omega, by omega⟩ ?_; conv => whnf) | (refine need_i (by first | omega | (simp only [List.length_cons, List.length_nil]; omega) | (simp only [List.length_append, List.length_cons, List.length_nil, List.length_map, List.length_replicate, List.length_modify]; omega)) ?_; conv => whnf) | ((with_reducible refine branch_tt ?_); conv => whnf) | ((with_reducible refine branch_ff ?_); conv => whnf) | (with_reducible refine branch_not ?_) | ((refine map_tb ?_); conv => whnf) | ((refine map_tn ?_); conv => whnf) | (((refine idx_c (xs := cs) (by omega) fun l hl => ?_; have LL : (l.map encI).length = l.length := (List.length_map ..); have hll := h3 l (List.mem_of_getElem? hl))); conv => whnf) | ((with_reducible refine slc_e ?_); conv => whnf) | ((with_reducible refine callS_a ?_); conv => whnf) | ((with_reducible refine bld_a ?_); conv => whnf) | ((with_reducible refine own_e ?_); conv => whnf) | ((with_reducible refine mkmap_b ?_); conv => whnf) | ((with_reducible refine branch_d (fun hq => ?_) (fun hq => ?_)) <;> (try (exfalso; omega)) <;> (conv => whnf)) | ((with_reducible refine branch_e (fun hq => ?_) (fun hq => ?_)) <;> (try (exfalso; omega)) <;> (conv => whnf)) | ((with_reducible refine branch_n (fun hq => ?_) (fun hq => ?_)) <;> (try (exfalso; omega)) <;> (conv => whnf)) | ((with_reducible refine branch_i (fun hq => ?_) (fun hq => ?_)) <;> (try (exfalso; omega)) <;> (conv => whnf))))
  · refine loop_i3 (fun (q : Nat) (M : List (Int × Bool)) (O : List (Int × Int)) => q ≤ l.length ∧ SetM M (metL an (l.take q)) ∧ OwnM cs an i (l.take q) O ∧ ∀ x ∈ l.take q, x ∉ an → ∀ k l', k < i → cs[k]? = some l' → x ∉ l') (fun q M O => mkSt [(5, .mp 19 (.b A)), (8, .mp 29 (.i O)), (9, .int .i64 i), (11, .mp 37 (.b M)), (30, .lst 1 (cs.map encS)), (31, .int .i64 (cs.map encS).length), (32, .int .i64 i), (38, ints l), (39, .int .i64 (l.map encI).length), (40, .int .i64 q)] [] false) (fun q _ _ => l.length - q) 0 [] O ⟨Nat.zero_le _, SetM.nil, hO, by simp⟩ ?_ ?_
    · exact (le_mk (by repeat' (first | exact trivial | rfl | apply And.intro)) (by repeat' (first | exact trivial | rfl | apply And.intro)) rfl)
    rintro q M O ⟨hq1, hM, hO, hD⟩
    (conv => whnf); (repeat' (first | (refine arith_i ⟨by omega, by omega⟩ ?_; conv => whnf) | (refine arith_u ⟨by omega, by omega⟩ ?_; conv => whnf) | (refine arith_8 ⟨by omega, by omega⟩ ?_; conv => whnf) | (refine need_i (by first | omega | (simp only [List.length_cons, List.length_nil]; omega) | (simp only [List.length_append, List.length_cons, List.length_nil, List.length_map, List.length_replicate, List.length_modify]; omega)) ?_; conv => whnf) | ((with_reducible refine branch_tt ?_); conv => whnf) | ((with_reducible refine branch_ff ?_); conv => whnf) | (with_reducible refine branch_not ?_) | ((refine map_tb ?_); conv => whnf) | ((refine map_tn ?_); conv => whnf) | (((refine idx_c (xs := l) (by omega) fun x hx => ?_)); conv => whnf) | ((rw [hA.get]); conv => whnf) | ((with_reducible refine slc_e ?_); conv => whnf) | ((with_reducible refine callS_a ?_); conv => whnf) | ((with_reducible refine bld_a ?_); conv => whnf) | ((with_reducible refine own_e ?_); conv => whnf) | ((with_reducible refine mkmap_b ?_); conv => whnf) | ((with_reducible refine branch_d (fun hq => ?_) (fun hq => ?_)) <;> (try (exfalso; omega)) <;> (conv => whnf)) | ((with_reducible refine branch_e (fun hq => ?_) (fun hq => ?_)) <;> (try (exfalso; omega)) <;> (conv => whnf)) | ((with_reducible refine branch_n (fun hq => ?_) (fun hq => ?_)) <;> (try (exfalso; omega)) <;> (conv => whnf)) | ((with_reducible refine branch_i (fun hq => ?_) (fun hq => ?_)) <;> (try (exfalso; omega)) <;> (conv => whnf))))
    · have hm : x ∈ an := ‹x ∈ an›
      refine ⟨q + 1, mput x true M, O, ⟨by omega, by rw [take_next hx, metL_in hm]; exact hM.put x, by rw [take_next hx]; exact hO.anchor hm, ?_⟩, (le_mk (by repeat' (first | exact trivial | rfl | apply And.intro)) (by repeat' (first | exact trivial | rfl | apply And.intro)) rfl), by omega⟩
      rw [take_next hx]
      intro y hy hn
      rw [List.mem_append, List.mem_singleton] at hy
      rcases hy with hy | rfl
      · exact hD y hy hn
      · exact absurd hm hn
    · refine ret_p rfl (apt_false hc2 fun hA' => ?_)
      obtain ⟨j, hj⟩ := Option.isSome_iff_exists.1 ‹(mget x O).isSome = true›
      have hne : j ≠ (i : Int) := fun e => hq (by rw [hj]; exact e)
      obtain ⟨g1, ⟨k', l', e1, e2, e3, e4⟩ | ⟨e1, -⟩⟩ := (hO.2 x j).1 hj
      · exact g1 ((hA'.at hl).2 k' l' e2 e3 x (List.mem_of_getElem? hx) e4)
      · exact hne e1
    · have hm : x ∉ an := ‹¬ x ∈ an›
      have hn : ∀ k l', k < i → cs[k]? = some l' → x ∉ l' := fun k' l' e2 e3 e4 => by
        have := (hO.2 x k').2 ⟨hm, .inl ⟨k', l', rfl, e2, e3, e4⟩⟩
        have e5 : (mget x O).getD 0 = (i : Int) := by omega
        rw [this] at e5
        have : (k' : Int) = i := e5
        omega
      refine ⟨q + 1, M, mput x (i : Int) O, ⟨by omega, by rw [take_next hx, metL_out hm]; exact hM, by rw [take_next hx]; exact hO.put hm hn, ?_⟩, (le_mk (by repeat' (first | exact trivial | rfl | apply And.intro)) (by repeat' (first | exact trivial | rfl | apply And.intro)) rfl), by omega⟩
      rw [take_next hx]
      intro y hy hny
      rw [List.mem_append, List.mem_singleton] at hy
      rcases hy with hy | rfl
      · exact hD y hy hny
      · exact hn
    · have hm : x ∉ an := ‹¬ x ∈ an›
      have hn : ∀ k l', k < i → cs[k]? = some l' → x ∉ l' := fun k' l' e2 e3 e4 => by
        have := (hO.2 x k').2 ⟨hm, .inl ⟨k', l', rfl, e2, e3, e4⟩⟩
        have e5 : (mget x O).isSome = false := ‹(mget x O).isSome = false›
        rw [this] at e5
        cases e5
      refine ⟨q + 1, M, mput x (i : Int) O, ⟨by omega, by rw [take_next hx, metL_out hm]; exact hM, by rw [take_next hx]; exact hO.put hm hn, ?_⟩, (le_mk (by repeat' (first | exact trivial | rfl | apply And.intro)) (by repeat' (first | exact trivial | rfl | apply And.intro)) rfl), by omega⟩
      rw [take_next hx]
      intro y hy hny
      rw [List.mem_append, List.mem_singleton] at hy
      rcases hy with hy | rfl
      · exact hD y hy hny
      · exact hn
    all_goals
      have hqq : l.take q = l := List.take_of_length_le (by omega)
      rw [hqq] at hM hO hD
      have hlen := hM.len hA fun x hx => (metL_mem.1 hx).2
    · refine ret_p rfl (apt_false hc2 fun hA' => ?_)
      exact hq (show (M.length : Int) = A.length by rw [hlen.2 fun x hx => metL_mem.2 ⟨(hA'.at hl).1 x hx, hx⟩])
    · have hs : M.length = A.length := by have : (M.length : Int) = A.length := hq; omega
      have hat : AptAt cs an i l := ⟨fun a ha => (metL_mem.1 (hlen.1 hs a ha)).1, fun k' l' e2 e3 x hx hx' => Classical.byContradiction fun hn => hD x hx hn k' l' e2 e3 hx'⟩
      exact ⟨i + 1, O, ⟨by omega, hO.next hl, hT.next hl hat⟩, (le_mk (by repeat' (first | exact trivial | rfl | apply And.intro)) (by repeat' (first | exact trivial | rfl | apply And.intro)) rfl), by omega⟩
  · have hin : i = cs.length := by omega
    exact ret_p rfl (apt_true (.inr (by rw [hin] at hT; exact hT)))
end Go.Proofs.Ytiionjpinainlaa
end

/- Layer 11: the law ParallelApart. -/
section
namespace Go.Proofs.Ytiionjpinainlaa
set_option linter.unusedVariables false
set_option linter.unusedSimpArgs false
set_option linter.unnecessarySimpa false
set_option linter.unusedSectionVars false
set_option maxRecDepth 10000
open Go.RowKit
set_option maxHeartbeats 4000000 in
theorem apart_law (cs : List (List Int)) (an xs : List Int) (hx : xs.length ≤ 9223372036854775807) (ha : an.length ≤ 9223372036854775807) (h1 : cs.length ≤ 9223372036854775807) (h3 : ∀ l ∈ cs, l.length ≤ 9223372036854775807) : Good Try.prog TT false 5 [.lst 1 (cs.map encS), ints an, ints xs] (· = .bool true) := by
  have LC : (cs.map encS).length = cs.length := List.length_map ..
  have LN : (an.map encI).length = an.length := List.length_map ..
  refine good_of mixed tabOk Try.func5 rfl rfl Try.ntmps5 Try.results5 rfl rfl ?_
  (conv => whnf); (repeat' (first | (refine arith_i ⟨by omega, by omega⟩ ?_; conv => whnf) | (refine arith_u ⟨by omega, by omega⟩ ?_; conv => whnf) | (refine arith_8 ⟨by omega, by omega⟩ ?_; conv => whnf) | (refine need_i (by first | omega | (simp only [List.length_cons, List.length_nil]; omega) | (simp only [List.length_append, List.length_cons, List.length_nil, List.length_map, List.length_replicate, List.length_modify]; omega)) ?_; conv => whnf) | ((with_reducible refine branch_tt ?_); conv => whnf) | ((with_reducible refine branch_ff ?_); conv => whnf) | (with_reducible refine branch_not ?_) | ((refine call_e (new_ok xs hx) ?_); conv => whnf) | (((refine call_i (next_ok 4 (by omega)) fun r hr => ?_; obtain ⟨m0, rfl, -, h6⟩ := hr; have hm0 := h6 (by omega))); conv => whnf) | ((with_reducible refine slc_e ?_); conv => whnf) | ((with_reducible refine callS_a ?_); conv => whnf) | ((with_reducible refine bld_a ?_); conv => whnf) | ((with_reducible refine own_e ?_); conv => whnf) | ((with_reducible refine mkmap_b ?_); conv => whnf) | ((with_reducible refine branch_d (fun hq => ?_) (fun hq => ?_)) <;> (try (exfalso; omega)) <;> (conv => whnf)) | ((with_reducible refine branch_e (fun hq => ?_) (fun hq => ?_)) <;> (try (exfalso; omega)) <;> (conv => whnf)) | ((with_reducible refine branch_n (fun hq => ?_) (fun hq => ?_)) <;> (try (exfalso; omega)) <;> (conv => whnf)) | ((with_reducible refine branch_i (fun hq => ?_) (fun hq => ?_)) <;> (try (exfalso; omega)) <;> (conv => whnf))))
  all_goals try exact ret_p rfl rfl
  have h8 : cs.length ≤ 8 := by omega
  have h30 : an.length ≤ 30 := by omega
  refine loop_i (fun ls : List (List Int) => (ls.length : Int) ≤ m0 ∧ ∀ l ∈ ls, l.length ≤ 6) (fun ls => mkSt [(0, .lst 1 (cs.map encS)), (1, ints an), (7, .tape), (8, .own 900 23 1 (ls.map encS)), (9, .int .i64 (m0 - ls.length))] [] true) (fun ls => m0.toNat - ls.length) [] ⟨by simp; omega, by simp⟩ (Le.trans (le_adopt 8 900 23 1 rfl) (le_mk ⟨rfl, rfl, rfl, rfl, int_eq (by simp), trivial⟩ trivial rfl)) ?_
  rintro ls ⟨hll, hls⟩
  have LS : (ls.map encS).length = ls.length := List.length_map ..
  (conv => whnf); (repeat' (first | (refine arith_i ⟨by omega, by omega⟩ ?_; conv => whnf) | (refine arith_u ⟨by omega, by omega⟩ ?_; conv => whnf) | (refine arith_8 ⟨by omega, by omega⟩ ?_; conv => whnf) | (refine need_i (by first | omega | (simp only [List.length_cons, List.length_nil]; omega) | (simp only [List.length_append, List.length_cons, List.length_nil, List.length_map, List.length_replicate, List.length_modify]; omega)) ?_; conv => whnf) | ((with_reducible refine branch_tt ?_); conv => whnf) | ((with_reducible refine branch_ff ?_); conv => whnf) | (with_reducible refine branch_not ?_) | (((refine call_i (sorted_ok _ (by omega)) fun r hr => ?_; obtain ⟨c, rfl, hc⟩ := hr)); conv => whnf) | (((refine call_i (apart_ok cs an (by omega) (by omega) h3) fun r hr => ?_; obtain ⟨b1, rfl, e1⟩ := hr)); conv => whnf) | (((refine call_i (rApart_ok cs an (by omega) (by omega) h3) fun r hr => ?_; obtain ⟨b2, rfl, e2⟩ := hr; have e12 : b1 = b2 := Bool.eq_iff_iff.2 (e1.trans e2.symm); subst e12)); conv => whnf) | (((refine call_i (apart_ok ls c (by omega) (by omega) fun l hl => (by have := hls l hl; omega)) fun r hr => ?_; obtain ⟨b3, rfl, e3⟩ := hr)); conv => whnf) | (((refine call_i (rApart_ok ls c (by omega) (by omega) fun l hl => (by have := hls l hl; omega)) fun r hr => ?_; obtain ⟨b4, rfl, e4⟩ := hr; have e34 : b3 = b4 := Bool.eq_iff_iff.2 (e3.trans e4.symm); subst e34)); conv => whnf) | ((refine call_e awake11_ok ?_); conv => whnf) | ((with_reducible refine slc_e ?_); conv => whnf) | ((with_reducible refine callS_a ?_); conv => whnf) | ((with_reducible refine bld_a ?_); conv => whnf) | ((with_reducible refine own_e ?_); conv => whnf) | ((with_reducible refine mkmap_b ?_); conv => whnf) | ((with_reducible refine branch_d (fun hq => ?_) (fun hq => ?_)) <;> (try (exfalso; omega)) <;> (conv => whnf)) | ((with_reducible refine branch_e (fun hq => ?_) (fun hq => ?_)) <;> (try (exfalso; omega)) <;> (conv => whnf)) | ((with_reducible refine branch_n (fun hq => ?_) (fun hq => ?_)) <;> (try (exfalso; omega)) <;> (conv => whnf)) | ((with_reducible refine branch_i (fun hq => ?_) (fun hq => ?_)) <;> (try (exfalso; omega)) <;> (conv => whnf))))
  · refine ⟨ls ++ [c], ⟨by simp; omega, fun l hl => ?_⟩, le_mk ⟨rfl, rfl, rfl, congrArg (AV.own 900 23 1) (by rw [List.map_append]; rfl), int_eq (by simp; omega), trivial⟩ trivial rfl, by simp; omega⟩
    rcases List.mem_append.1 hl with hl | hl
    · exact hls l hl
    · rw [List.mem_singleton.1 hl]; omega
  all_goals first
    | exact ret_p rfl rfl
    | (exfalso; exact hq rfl)
    | (exfalso; revert hq; simp; done)
    | trace_state
end Go.Proofs.Ytiionjpinainlaa
end

/- From a contract of the interpreter to a law's call: slices of slices of ints. -/
section
namespace Go.Proofs.Ytiionjpinainlaa
set_option linter.unusedVariables false
set_option linter.unusedSimpArgs false
open Go.RowKit Go.ChangeShapes Go.WideShapes Go.Deep
/-- A slice of slices of numbers: its elements. -/
def IsRows (w : World) (a : Option Addr) (len cap : Nat) (zs : List (List Int)) : Prop :=
  zs.length = len ∧ (len ≤ cap ∧ zs.length ≤ 9223372036854775807) ∧ (∀ r ∈ zs, r.length ≤ 9223372036854775807) ∧ (0 < len → ∃ x, a = some x ∧ ∀ i r, zs[i]? = some r → ∃ u, w.cell? (x.add i) = some u ∧ RepV w No (ints r) u)
theorem rows_row {w : World} {a : Option Addr} {len cap : Nat} {zs : List (List Int)} (h : IsRows w a len cap zs) : RepV w No (.lst 1 (zs.map fun r => [ints r])) (.slice a len cap) := by
  obtain ⟨rfl, ⟨h2, -⟩, -, h3⟩ := h
  by_cases h0 : zs = []
  · subst h0; exact .nil 1 _ _
  · obtain ⟨x, rfl, hc⟩ := h3 (List.length_pos_iff.2 h0)
    obtain ⟨r0, hr0⟩ : ∃ r, zs[0]? = some r := ⟨_, List.getElem?_eq_getElem (List.length_pos_iff.2 h0)⟩
    obtain ⟨u0, h00, -⟩ := hc 0 r0 hr0
    rw [show x.add 0 = x by simp [Addr.add]] at h00
    have hs := spot_of_cell h00
    obtain ⟨b, off, sp⟩ := x
    simp only at hs
    subst hs
    have hb := World.block_lt_of_cell? w _ h00
    have key := RepV.lst (w := w) (X := No) (z := 1) (es := zs.map fun r => [ints r]) (b := b) (off := off) (c := cap) (fun i _ => (w.cell? ⟨b, off + i, none⟩).getD Go.undef) (by simpa using h0) (by simpa using h2) hb no_ (fun cs hcs => by
      obtain ⟨r, hr, rfl⟩ := List.mem_map.1 hcs
      rfl) (fun i j d hd => ?_) (fun i j d hd => ?_)
    · rwa [List.length_map] at key
    all_goals
      obtain ⟨ds, k1, k2⟩ := at2_some hd
      rw [List.getElem?_map, Option.map_eq_some_iff] at k1
      obtain ⟨r, hr, rfl⟩ := k1
      have hj : j = 0 := by have := (List.getElem?_eq_some_iff.1 k2).1; simpa using this
      subst hj
      simp only [List.getElem?_cons_zero, Option.some.injEq] at k2
      subst k2
      obtain ⟨u, hu, hrep⟩ := hc i r hr
      rw [add_none] at hu
      first
        | (rw [Nat.mul_one, Nat.add_zero, hu]; rfl)
        | (rw [hu]; exact hrep)
section
variable {H : Type} {enc : TypeId × Value → H} {P : Program} {w : World} {base : Nat} {spare : Nat → Bool} {held : Bool}
theorem open_rows {t e k : TypeId} {fuel : Nat} {A : Option Addr} {len cap : Nat} {x : DataW H × List MemPlace} (ht : P.underlying t = some (.slice e)) (he : P.underlying e = some (.slice k)) (hk : P.underlying k = some (.int .i64)) (hC : P.cellsOf e = 1) (hCk : P.cellsOf k = 1)
    (h : DataW.trod enc P w base spare held fuel t [.slice A len cap] = some x) : ∃ zs, IsRows w A len cap zs := by
  rcases open_slice ht h with ⟨h0, -⟩ | ⟨a, len', cap', m, n, D, Pl, hcs, hb, hl, hm, hmm, hx, hi⟩
  · simp at h0
    obtain ⟨rfl, rfl, rfl⟩ := h0
    exact ⟨[], rfl, ⟨Nat.le_refl _, by simp⟩, by simp, fun h => by omega⟩
  · simp at hcs
    obtain ⟨rfl, rfl, rfl⟩ := hcs
    have hle : len ≤ m := by rw [hmm]; split <;> omega
    have key : ∀ i, i < len → ∃ r : List Int, r.length ≤ 9223372036854775807 ∧ ∃ u, w.cell? (a.add i) = some u ∧ RepV w No (ints r) u := fun i hil => by
      obtain ⟨cs', hc, ht'⟩ := hi i (by omega)
      rw [hC] at hc
      obtain ⟨_, hcl, hat⟩ := World.cells?_some hc
      rcases open_ints he hk hCk ht' with ⟨rfl, -⟩ | ⟨y, l, c, zs, rfl, hb', hl', hm', hz', -, hcell, hwz⟩
      · refine ⟨[], by simp, .slice none 0 0, ?_, .nil 1 _ _⟩
        have := hat 0 (by omega)
        simpa [Nat.mul_one, Addr.add] using this
      · have h8 : maxLen = 9223372036854775807 := rfl
        have hzl : l ≤ zs.length := by rw [hz']; split <;> omega
        refine ⟨zs.take l, by rw [List.length_take]; omega, .slice (some y) l c, ?_, row_rep (enc := encI) (val := .int .i64) (d := 0) (fun z => rfl) (fun z => .int .i64 z) hl' hzl hcell⟩
        have := hat 0 (by omega)
        simpa [Nat.mul_one, Addr.add] using this
    refine ⟨(List.range len).map fun i => if hil : i < len then Classical.choose (key i hil) else [], by simp, ⟨hl, by have h8 : maxLen = 9223372036854775807 := rfl; simp; omega⟩, fun r hr => ?_, fun _ => ⟨a, rfl, fun i r hr => ?_⟩⟩
    · obtain ⟨i, hil, rfl⟩ := List.mem_map.1 hr
      rw [dif_pos (List.mem_range.1 hil)]
      exact (Classical.choose_spec (key i (List.mem_range.1 hil))).1
    · rw [List.getElem?_map, Option.map_eq_some_iff] at hr
      obtain ⟨i', hi', hr⟩ := hr
      have hil : i < len := by have := (List.getElem?_eq_some_iff.1 hi').1; simpa using this
      rw [List.getElem?_range hil] at hi'
      injection hi' with hi'
      subst hi'
      rw [dif_pos hil] at hr
      subst hr
      exact (Classical.choose_spec (key i hil)).2
end
end Go.Proofs.Ytiionjpinainlaa
end
