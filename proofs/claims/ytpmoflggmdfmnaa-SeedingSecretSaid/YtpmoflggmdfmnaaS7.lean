/- Several texts in one: GL26t, GBrM. -/
import Derived.Test.YtpmoflggmdfmnaaS6
import Derived.Test.YtpmoflggmdfmnaaS1
import Derived.Test.YtpmoflggmdfmnaaFrame
/- Layer 26: seeds are an argument of no view, and are given to every marker who may mark them. -/
section
namespace Go.Proofs.Ytpmoflggmdfmnaa
set_option linter.unusedVariables false
set_option linter.unusedSimpArgs false
set_option linter.unnecessarySimpa false
set_option linter.unusedSectionVars false
set_option maxRecDepth 10000
open Go.RowKit
theorem comm_asc {s : List Scr} (hs : ScsOk s) {k : Int} : (commF s k).Pairwise (· < ·) := by
  unfold commF
  rw [List.pairwise_map]
  refine (List.Pairwise.and_mem.1 (idxs_asc (n := s.length) (k := k))).imp fun {a b} h => ?_
  obtain ⟨h1, h2, h3⟩ := h
  have ha := idxs_mem.1 h1
  have hb := idxs_mem.1 h2
  exact numF_lt hs.asc (by omega) (by omega)
theorem mks_vm {q : Pap} {ms : List Int} (h : mksOk q ms) : mvB q ms = true := by
  obtain ⟨h1, h2⟩ := h
  unfold mvB
  rw [decide_eq_true h1, Bool.true_and]
  have key : ∀ k, k ≤ q.parts.length → vmB q.parts ms k = true := fun k => by
    induction k with
    | zero => intro _; rfl
    | succ k ih =>
      intro hk
      obtain ⟨p, hp⟩ : ∃ p, q.parts[k]? = some p := ⟨_, List.getElem?_eq_getElem (by omega)⟩
      obtain ⟨m, hm⟩ : ∃ m, ms[k]? = some m := ⟨_, List.getElem?_eq_getElem (by omega)⟩
      have := h2 k m p hm hp
      rw [vmB, ih (by omega), hp, nth_eq hm]
      simp only [Bool.true_and, Bool.and_eq_true, decide_eq_true_eq]; exact this
  exact key _ (Nat.le_refl _)
/-- Seeds among the common scripts, ascending. -/
structure SecOk (s : List Scr) (ps : List Pap) (sd : List Sed) : Prop where
  ok : ∀ y ∈ sd, SedOk ps s y ∧ hasP (commF s 2) y.script = true
  asc : sd.Pairwise (·.script < ·.script)
theorem sec_check {s : List Scr} {ps : List Pap} {sd : List Sed} (hs : ScsOk s) (h : SecOk s ps sd) (hl : sd.length ≤ 12) : check26V s ps 2 sd = 0 := by
  unfold check26V
  rw [if_neg (by omega), if_neg (by omega)]
  have key : ∀ k, k ≤ sd.length → chkE s ps 2 sd k = 0 := fun k => by
    induction k with
    | zero => intro _; rfl
    | succ k ih =>
      intro hk
      rw [chk_next (ih (by omega))]
      obtain ⟨y, hy⟩ : ∃ y, sd[k]? = some y := ⟨_, List.getElem?_eq_getElem (by omega)⟩
      obtain ⟨⟨p, x, q, hx, hn, hpf, hms⟩, hc⟩ := h.ok y (List.mem_of_getElem? hy)
      unfold seedE
      rw [hy]
      simp only
      rw [hc, if_neg (by simp)]
      have ho : ¬ (0 < k ∧ y.script ≤ prevS sd k) := by
        rintro ⟨h0, h1⟩
        obtain ⟨z, hz⟩ : ∃ z, sd[k - 1]? = some z := ⟨_, List.getElem?_eq_getElem (by omega)⟩
        unfold prevS at h1
        rw [hz] at h1
        have := List.pairwise_iff_getElem.1 h.asc (k - 1) k (List.getElem?_eq_some_iff.1 hz).1 (List.getElem?_eq_some_iff.1 hy).1 (by omega)
        rw [(List.getElem?_eq_some_iff.1 hz).2, (List.getElem?_eq_some_iff.1 hy).2] at this
        simp only at h1
        omega
      rw [if_neg ho, hn, scrN_at hs (List.mem_of_getElem? hx), hpf]
      simp only [mks_vm hms, if_true]
  exact key _ (Nat.le_refl _)
theorem num_inj {s : List Scr} (hs : ScsOk s) {x y : Scr} (hx : x ∈ s) (hy : y ∈ s) (h : x.number = y.number) : x = y := by
  have h1 := scrN_at hs hx
  have h2 := scrN_at hs hy
  rw [h] at h1
  exact h1.symm.trans h2
theorem rq_has {l : List Mrk} {s : List Scr} {ts : List (Int × Int)} {k id : Int} (hs : ScsOk s) {x : Scr} (hx : x ∈ s) : ((rqF l s ts k id s).any fun n => n == x.number) = mineB l s ts k id x := by
  refine bool_iff ?_
  rw [List.any_eq_true]
  unfold rqF
  constructor
  · rintro ⟨n, hn, he⟩
    obtain ⟨y, hy, rfl⟩ := List.mem_map.1 hn
    have := num_inj hs (List.mem_filter.1 hy).1 hx (by simpa using he)
    rw [← this]; exact (List.mem_filter.1 hy).2
  · intro h
    exact ⟨x.number, List.mem_map.2 ⟨x, List.mem_filter.2 ⟨hx, h⟩, rfl⟩, by simp⟩
theorem br_t2 {b : Bool} {A B : Prop} (h : b = true) (k : A) : branch b A B := branch_iff.2 ⟨fun _ => k, fun hf => absurd (hf.symm.trans h) Bool.noConfusion⟩
theorem br_f2 {b : Bool} {A B : Prop} (h : b = false) (k : B) : branch b A B := branch_iff.2 ⟨fun ht => absurd (ht.symm.trans h) Bool.noConfusion, fun _ => k⟩
set_option maxHeartbeats 8000000 in
theorem secret_law (xs : List Int) (hxl : xs.length ≤ 9223372036854775807) : Good Try.prog TT false 7 [ints xs] (· = .bool true) := by
  rcases Nat.lt_or_ge 600 xs.length with h600 | h600
  · refine good_of mixed tabOk Try.func7 rfl rfl Try.ntmps7 Try.results7 rfl rfl ?_
    (conv => whnf); (repeat' (first | (refine arith_i ⟨by omega, by omega⟩ ?_; conv => whnf) | (refine arith_u ⟨by omega, by omega⟩ ?_; conv => whnf) | (refine arith_8 ⟨by omega, by omega⟩ ?_; conv => whnf) | (refine need_i (by first | omega | (simp only [List.length_cons, List.length_nil]; omega) | (simp only [List.length_append, List.length_cons, List.length_nil, List.length_map, List.length_replicate, List.length_modify]; omega)) ?_; conv => whnf) | ((with_reducible refine branch_tt ?_); conv => whnf) | ((with_reducible refine branch_ff ?_); conv => whnf) | (with_reducible refine branch_not ?_) | ((refine call_e ((light_ok xs).mono fun r h => h.trans (bool_eq (decide_eq_false (by omega) : _ = false))) ?_); conv => whnf) | ((refine call_e sane26_ok ?_); conv => whnf) | ((with_reducible refine slc_e ?_); conv => whnf) | ((with_reducible refine callS_a ?_); conv => whnf) | ((with_reducible refine bld_a ?_); conv => whnf) | ((with_reducible refine own_e ?_); conv => whnf) | ((with_reducible refine mkmap_b ?_); conv => whnf) | ((with_reducible refine branch_d (fun hq => ?_) (fun hq => ?_)) <;> (try (exfalso; omega)) <;> (conv => whnf)) | ((with_reducible refine branch_e (fun hq => ?_) (fun hq => ?_)) <;> (try (exfalso; omega)) <;> (conv => whnf)) | ((with_reducible refine branch_n (fun hq => ?_) (fun hq => ?_)) <;> (try (exfalso; omega)) <;> (conv => whnf)) | ((with_reducible refine branch_i (fun hq => ?_) (fun hq => ?_)) <;> (try (exfalso; omega)) <;> (conv => whnf))))
    exact ret_p rfl rfl
  refine good_of mixed tabOk Try.func7 rfl rfl Try.ntmps7 Try.results7 rfl rfl ?_
  (conv => whnf); (repeat' (first | (refine arith_i ⟨by omega, by omega⟩ ?_; conv => whnf) | (refine arith_u ⟨by omega, by omega⟩ ?_; conv => whnf) | (refine arith_8 ⟨by omega, by omega⟩ ?_; conv => whnf) | (refine need_i (by first | omega | (simp only [List.length_cons, List.length_nil]; omega) | (simp only [List.length_append, List.length_cons, List.length_nil, List.length_map, List.length_replicate, List.length_modify]; omega)) ?_; conv => whnf) | ((with_reducible refine branch_tt ?_); conv => whnf) | ((with_reducible refine branch_ff ?_); conv => whnf) | (with_reducible refine branch_not ?_) | ((refine call_e ((light_ok xs).mono fun r h => h.trans (bool_eq (decide_eq_true (by omega) : _ = true))) ?_); conv => whnf) | ((refine call_e (roll_ok xs h600) ?_); conv => whnf) | (((refine call_i setup_ok fun r hr => ?_; obtain ⟨l, s, ps, es, sd0, m1, m2, m3, m4, rfl, H⟩ := hr; have LS : (s.map encR).length = s.length := List.length_map ..; have LL : (l.map encM).length = l.length := List.length_map ..)); conv => whnf) | (((refine call_i ((rAllocate_ok l s 1 H.mks H.scs).mono fun r h => all_any H.mks H.scs h) fun r hr => ?_; obtain ⟨ts, e, rfl, hts, htb⟩ := hr)); conv => whnf) | (((refine call_e (common_ok s 2 H.scs (by omega)) ?_)); conv => whnf) | ((with_reducible refine slc_e ?_); conv => whnf) | ((with_reducible refine callS_a ?_); conv => whnf) | ((with_reducible refine bld_a ?_); conv => whnf) | ((with_reducible refine own_e ?_); conv => whnf) | ((with_reducible refine mkmap_b ?_); conv => whnf) | ((with_reducible refine branch_d (fun hq => ?_) (fun hq => ?_)) <;> (try (exfalso; omega)) <;> (conv => whnf)) | ((with_reducible refine branch_e (fun hq => ?_) (fun hq => ?_)) <;> (try (exfalso; omega)) <;> (conv => whnf)) | ((with_reducible refine branch_n (fun hq => ?_) (fun hq => ?_)) <;> (try (exfalso; omega)) <;> (conv => whnf)) | ((with_reducible refine branch_i (fun hq => ?_) (fun hq => ?_)) <;> (try (exfalso; omega)) <;> (conv => whnf))))
  have hs8 := H.s8
  have hl5 := H.l5
  have hCA := comm_asc H.scs (k := 2)
  have hCL := commF_len (s := s) (k := 2)
  have hCM : ∀ n, n ∈ commF s 2 → hasP (commF s 2) n = true := fun n h => hasP_mem.2 h
  refine loop_i2 (fun (i : Nat) (sd : List Sed) => i ≤ s.length ∧ SecOk s ps sd ∧ sd.length ≤ i ∧ ∀ y ∈ sd, ∀ x, s[i]? = some x → y.script < x.number) (fun i sd => mkSt [(3, .tape), (4, .ptr 4 0), (5, tasksV ts), (7, ints (commF s 2)), (8, .own 200 78 2 (sd.map encSd)), (43, scrsV s), (44, .int .i64 s.length), (45, .int .i64 i)] [(4, stpV l s ps es sd0 m1 m2 m3 m4)] true) (fun i _ => s.length - i) 0 [] ⟨Nat.zero_le _, ⟨nofun, List.Pairwise.nil⟩, Nat.le_refl _, nofun⟩ (Le.trans (le_erase 41) (Le.trans (le_adopt 8 200 78 2 rfl) (le_mk ⟨rfl, rfl, rfl, rfl, rfl, rfl, int_eq (by rw [LS]), rfl, trivial⟩ ⟨rfl, trivial⟩ rfl))) ?_
  rintro i sd ⟨hi, hsd, hsl, hlt⟩
  have Lc : ((commF s 2).map encI).length = (commF s 2).length := List.length_map ..
  rcases Nat.lt_or_ge i s.length with hil | hil
  · obtain ⟨x, hx⟩ : ∃ x, s[i]? = some x := ⟨_, List.getElem?_eq_getElem hil⟩
    obtain ⟨q, hpf⟩ := pap_found (H.pgs i x hx)
    have hget : ∀ j, j < (commF s 2).length → ∃ n, (commF s 2)[j]? = some n := fun j h => ⟨_, List.getElem?_eq_getElem h⟩
    have hlt' := fun y hy => hlt y hy x hx
    have hnext : ∀ x', s[i + 1]? = some x' → x.number < x'.number := fun x' hx' => asc_lt H.scs.asc hx hx' (by omega)
    have hnot : ∀ j n, (commF s 2)[j]? = some n → n ∉ (commF s 2).take j := fun j n hn hm => by
      obtain ⟨k, hk⟩ := List.getElem?_of_mem hm
      rw [List.getElem?_take] at hk
      split at hk
      · next hkj =>
        have := List.pairwise_iff_getElem.1 hCA k j (List.getElem?_eq_some_iff.1 hk).1 (List.getElem?_eq_some_iff.1 hn).1 hkj
        rw [(List.getElem?_eq_some_iff.1 hk).2, (List.getElem?_eq_some_iff.1 hn).2] at this
        omega
      · cases hk
    have hmono : ∀ j n, n ∈ (commF s 2).take j → n ∈ (commF s 2).take (j + 1) := fun j n h => List.take_subset_take_left _ (Nat.le_succ j) h
    have hmem : ∀ j n, (commF s 2)[j]? = some n → n ∈ (commF s 2).take (j + 1) := fun j n h => by rw [List.take_add_one, h]; simp
    have hLT : ∀ (sd : List Sed), (sd.map encSd).length = sd.length := fun sd => List.length_map ..
    have hpapl : (ps.length ≤ 1000) := by have := H.p3; omega
    have hpap := H.pap
    (conv => whnf); (repeat' (first | (refine arith_i ⟨by omega, by omega⟩ ?_; conv => whnf) | (refine arith_u ⟨by omega, by omega⟩ ?_; conv => whnf) | (refine arith_8 ⟨by omega, by omega⟩ ?_; conv => whnf) | (refine need_i (by first | omega | (simp only [List.length_cons, List.length_nil]; omega) | (simp only [List.length_append, List.length_cons, List.length_nil, List.length_map, List.length_replicate, List.length_modify]; omega)) ?_; conv => whnf) | ((with_reducible refine branch_tt ?_); conv => whnf) | ((with_reducible refine branch_ff ?_); conv => whnf) | (with_reducible refine branch_not ?_) | ((refine idx_cs hx ?_); conv => whnf) | ((with_reducible refine slc_e ?_); conv => whnf) | ((with_reducible refine callS_a ?_); conv => whnf) | ((with_reducible refine bld_a ?_); conv => whnf) | ((with_reducible refine own_e ?_); conv => whnf) | ((with_reducible refine mkmap_b ?_); conv => whnf) | ((with_reducible refine branch_d (fun hq => ?_) (fun hq => ?_)) <;> (try (exfalso; omega)) <;> (conv => whnf)) | ((with_reducible refine branch_e (fun hq => ?_) (fun hq => ?_)) <;> (try (exfalso; omega)) <;> (conv => whnf)) | ((with_reducible refine branch_n (fun hq => ?_) (fun hq => ?_)) <;> (try (exfalso; omega)) <;> (conv => whnf)) | ((with_reducible refine branch_i (fun hq => ?_) (fun hq => ?_)) <;> (try (exfalso; omega)) <;> (conv => whnf))))
    refine loop_i2 (fun (j : Nat) (sd : List Sed) => j ≤ (commF s 2).length ∧ SecOk s ps sd ∧ (∀ y ∈ sd, y.script < x.number ∨ (y.script = x.number ∧ x.number ∈ (commF s 2).take j)) ∧ (sd.length ≤ i ∨ (sd.length ≤ i + 1 ∧ x.number ∈ (commF s 2).take j))) (fun j sd => mkSt [(3, .tape), (4, .ptr 4 0), (5, tasksV ts), (7, ints (commF s 2)), (8, .own 200 78 2 (sd.map encSd)), (10, .ptr 10 0), (43, scrsV s), (44, .int .i64 s.length), (45, .int .i64 i), (49, ints (commF s 2)), (50, .int .i64 (commF s 2).length), (51, .int .i64 j)] [(4, stpV l s ps es sd0 m1 m2 m3 m4), (10, encR x)] true) (fun j _ => (commF s 2).length - j) 0 sd ⟨Nat.zero_le _, hsd, fun y hy => .inl (hlt' y hy), .inl hsl⟩ (le_mk ⟨rfl, rfl, rfl, rfl, rfl, rfl, rfl, rfl, rfl, rfl, int_eq (by rw [Lc]), rfl, trivial⟩ ⟨rfl, rfl, trivial⟩ rfl) ?_
    clear hsd hsl hlt hlt' sd
    rintro j sd ⟨hj, hsd, hlt, hsl⟩
    have hLd := hLT sd
    have hsl9 : sd.length ≤ i + 1 := by rcases hsl with h | h <;> omega
    rcases Nat.lt_or_ge j (commF s 2).length with hjl | hjl
    · obtain ⟨n, hn⟩ := hget j hjl
      have hkeep : (∀ y ∈ sd, y.script < x.number ∨ (y.script = x.number ∧ x.number ∈ (commF s 2).take (j + 1))) ∧ (sd.length ≤ i ∨ (sd.length ≤ i + 1 ∧ x.number ∈ (commF s 2).take (j + 1))) := ⟨fun y hy => (hlt y hy).imp id fun h => ⟨h.1, hmono j _ h.2⟩, hsl.imp id fun h => ⟨h.1, hmono j _ h.2⟩⟩
      by_cases hnx : n = x.number
      · have hno := hnot j n hn
        rw [hnx] at hno
        have hlt2 : ∀ y ∈ sd, y.script < x.number := fun y hy => (hlt y hy).elim id fun h => absurd h.2 hno
        have hsl2 : sd.length ≤ i := hsl.elim id fun h => absurd h.2 hno
        have hadd : ∀ ms, mksOk q ms → SecOk s ps (sd ++ [⟨x.number, ms⟩]) ∧ (∀ y ∈ sd ++ [⟨x.number, ms⟩], y.script < x.number ∨ (y.script = x.number ∧ x.number ∈ (commF s 2).take (j + 1))) ∧ ((sd ++ [⟨x.number, ms⟩] : List Sed).length ≤ i ∨ ((sd ++ [⟨x.number, ms⟩] : List Sed).length ≤ i + 1 ∧ x.number ∈ (commF s 2).take (j + 1))) := fun ms hms => by
          have hin := hmem j n hn
          rw [hnx] at hin
          refine ⟨⟨fun y hy => ?_, ?_⟩, fun y hy => ?_, .inr ⟨by simp; omega, hin⟩⟩
          · rcases List.mem_append.1 hy with h | h
            · exact hsd.ok y h
            · rw [List.mem_singleton] at h; subst h
              exact ⟨⟨i, x, q, hx, rfl, hpf, hms⟩, hCM _ (List.mem_of_mem_take hin)⟩
          · rw [List.pairwise_append]
            exact ⟨hsd.asc, by simp, fun a ha b hb => by rw [List.mem_singleton] at hb; subst hb; exact hlt2 a ha⟩
          · rcases List.mem_append.1 hy with h | h
            · exact .inl (hlt2 y h)
            · rw [List.mem_singleton] at h; subst h; exact .inr ⟨rfl, hin⟩
        have e1 : ∀ ms, (sd ++ [Sed.mk x.number ms]).map encSd = sd.map encSd ++ [[.int .i64 x.number, ints ms]] := fun ms => by rw [List.map_append]; rfl
        (conv => whnf); (repeat' (first | (refine arith_i ⟨by omega, by omega⟩ ?_; conv => whnf) | (refine arith_u ⟨by omega, by omega⟩ ?_; conv => whnf) | (refine arith_8 ⟨by omega, by omega⟩ ?_; conv => whnf) | (refine need_i (by first | omega | (simp only [List.length_cons, List.length_nil]; omega) | (simp only [List.length_append, List.length_cons, List.length_nil, List.length_map, List.length_replicate, List.length_modify]; omega)) ?_; conv => whnf) | ((with_reducible refine branch_tt ?_); conv => whnf) | ((with_reducible refine branch_ff ?_); conv => whnf) | (with_reducible refine branch_not ?_) | ((refine idx_cs hn ?_); conv => whnf) | (((refine call_i (dbool_ok 2 (by omega)) fun r hr => ?_; obtain ⟨bb, rfl⟩ := hr; cases bb <;> (conv => whnf))); conv => whnf) | (((refine call_i (seed_ok ps x hpapl hpap q hpf) fun r hr => ?_; obtain ⟨ms, rfl, hms⟩ := hr)); conv => whnf) | ((with_reducible refine slc_e ?_); conv => whnf) | ((with_reducible refine callS_a ?_); conv => whnf) | ((with_reducible refine bld_a ?_); conv => whnf) | ((with_reducible refine own_e ?_); conv => whnf) | ((with_reducible refine mkmap_b ?_); conv => whnf) | ((with_reducible refine branch_d (fun hq => ?_) (fun hq => ?_)) <;> (try (exfalso; omega)) <;> (conv => whnf)) | ((with_reducible refine branch_e (fun hq => ?_) (fun hq => ?_)) <;> (try (exfalso; omega)) <;> (conv => whnf)) | ((with_reducible refine branch_n (fun hq => ?_) (fun hq => ?_)) <;> (try (exfalso; omega)) <;> (conv => whnf)) | ((with_reducible refine branch_i (fun hq => ?_) (fun hq => ?_)) <;> (try (exfalso; omega)) <;> (conv => whnf))))
        · exact ⟨j + 1, sd, ⟨by omega, hsd, hkeep⟩, (le_mk (by repeat' (first | exact trivial | rfl | apply And.intro)) (by repeat' (first | exact trivial | rfl | apply And.intro)) rfl), by omega⟩
        · exact ⟨j + 1, sd ++ [⟨x.number, ms⟩], ⟨by omega, hadd ms hms⟩, by rw [e1]; exact (le_mk (by repeat' (first | exact trivial | rfl | apply And.intro)) (by repeat' (first | exact trivial | rfl | apply And.intro)) rfl), by omega⟩
      · (conv => whnf); (repeat' (first | (refine arith_i ⟨by omega, by omega⟩ ?_; conv => whnf) | (refine arith_u ⟨by omega, by omega⟩ ?_; conv => whnf) | (refine arith_8 ⟨by omega, by omega⟩ ?_; conv => whnf) | (refine need_i (by first | omega | (simp only [List.length_cons, List.length_nil]; omega) | (simp only [List.length_append, List.length_cons, List.length_nil, List.length_map, List.length_replicate, List.length_modify]; omega)) ?_; conv => whnf) | ((with_reducible refine branch_tt ?_); conv => whnf) | ((with_reducible refine branch_ff ?_); conv => whnf) | (with_reducible refine branch_not ?_) | ((refine idx_cs hn ?_); conv => whnf) | ((with_reducible refine slc_e ?_); conv => whnf) | ((with_reducible refine callS_a ?_); conv => whnf) | ((with_reducible refine bld_a ?_); conv => whnf) | ((with_reducible refine own_e ?_); conv => whnf) | ((with_reducible refine mkmap_b ?_); conv => whnf) | ((with_reducible refine branch_d (fun hq => ?_) (fun hq => ?_)) <;> (try (exfalso; omega)) <;> (conv => whnf)) | ((with_reducible refine branch_e (fun hq => ?_) (fun hq => ?_)) <;> (try (exfalso; omega)) <;> (conv => whnf)) | ((with_reducible refine branch_n (fun hq => ?_) (fun hq => ?_)) <;> (try (exfalso; omega)) <;> (conv => whnf)) | ((with_reducible refine branch_i (fun hq => ?_) (fun hq => ?_)) <;> (try (exfalso; omega)) <;> (conv => whnf))))
        all_goals exact ⟨j + 1, sd, ⟨by omega, hsd, hkeep⟩, (le_mk (by repeat' (first | exact trivial | rfl | apply And.intro)) (by repeat' (first | exact trivial | rfl | apply And.intro)) rfl), by omega⟩
    · (conv => whnf); (repeat' (first | (refine arith_i ⟨by omega, by omega⟩ ?_; conv => whnf) | (refine arith_u ⟨by omega, by omega⟩ ?_; conv => whnf) | (refine arith_8 ⟨by omega, by omega⟩ ?_; conv => whnf) | (refine need_i (by first | omega | (simp only [List.length_cons, List.length_nil]; omega) | (simp only [List.length_append, List.length_cons, List.length_nil, List.length_map, List.length_replicate, List.length_modify]; omega)) ?_; conv => whnf) | ((with_reducible refine branch_tt ?_); conv => whnf) | ((with_reducible refine branch_ff ?_); conv => whnf) | (with_reducible refine branch_not ?_) | ((with_reducible refine slc_e ?_); conv => whnf) | ((with_reducible refine callS_a ?_); conv => whnf) | ((with_reducible refine bld_a ?_); conv => whnf) | ((with_reducible refine own_e ?_); conv => whnf) | ((with_reducible refine mkmap_b ?_); conv => whnf) | ((with_reducible refine branch_d (fun hq => ?_) (fun hq => ?_)) <;> (try (exfalso; omega)) <;> (conv => whnf)) | ((with_reducible refine branch_e (fun hq => ?_) (fun hq => ?_)) <;> (try (exfalso; omega)) <;> (conv => whnf)) | ((with_reducible refine branch_n (fun hq => ?_) (fun hq => ?_)) <;> (try (exfalso; omega)) <;> (conv => whnf)) | ((with_reducible refine branch_i (fun hq => ?_) (fun hq => ?_)) <;> (try (exfalso; omega)) <;> (conv => whnf))))
      refine ⟨i + 1, sd, ⟨by omega, hsd, by omega, fun y hy x' hx' => ?_⟩, (le_mk (by repeat' (first | exact trivial | rfl | apply And.intro)) (by repeat' (first | exact trivial | rfl | apply And.intro)) rfl), by omega⟩
      have := hnext x' hx'
      rcases hlt y hy with h | h <;> omega
  · (conv => whnf); (repeat' (first | (refine arith_i ⟨by omega, by omega⟩ ?_; conv => whnf) | (refine arith_u ⟨by omega, by omega⟩ ?_; conv => whnf) | (refine arith_8 ⟨by omega, by omega⟩ ?_; conv => whnf) | (refine need_i (by first | omega | (simp only [List.length_cons, List.length_nil]; omega) | (simp only [List.length_append, List.length_cons, List.length_nil, List.length_map, List.length_replicate, List.length_modify]; omega)) ?_; conv => whnf) | ((with_reducible refine branch_tt ?_); conv => whnf) | ((with_reducible refine branch_ff ?_); conv => whnf) | (with_reducible refine branch_not ?_) | ((refine call_e ((sCheck_ok s ps 2 sd H.scs (by have := H.p3; omega) (fun k p h => by have := (H.pap k p h).2.2.2.1; omega) (by omega) (fun k y h => by obtain ⟨⟨p, x, q, hx, hn, hpf, hms⟩, hc⟩ := hsd.ok y (List.mem_of_getElem? h); obtain ⟨k', hk'⟩ := List.getElem?_of_mem (List.mem_of_find?_eq_some hpf); have := (H.pap k' q hk').2.2.2.1; have := hms.1; omega) (by decide)).mono fun r h => h.trans (int_eq (sec_check H.scs hsd (by omega)))) ?_); conv => whnf) | ((with_reducible refine slc_e ?_); conv => whnf) | ((with_reducible refine callS_a ?_); conv => whnf) | ((with_reducible refine bld_a ?_); conv => whnf) | ((with_reducible refine own_e ?_); conv => whnf) | ((with_reducible refine mkmap_b ?_); conv => whnf) | ((with_reducible refine branch_d (fun hq => ?_) (fun hq => ?_)) <;> (try (exfalso; omega)) <;> (conv => whnf)) | ((with_reducible refine branch_e (fun hq => ?_) (fun hq => ?_)) <;> (try (exfalso; omega)) <;> (conv => whnf)) | ((with_reducible refine branch_n (fun hq => ?_) (fun hq => ?_)) <;> (try (exfalso; omega)) <;> (conv => whnf)) | ((with_reducible refine branch_i (fun hq => ?_) (fun hq => ?_)) <;> (try (exfalso; omega)) <;> (conv => whnf))))
    have Lsd : (sd.map encSd).length = sd.length := List.length_map ..
    refine loop_i (fun j : Nat => j ≤ l.length) (fun j => mkSt [(4, .ptr 4 0), (5, tasksV ts), (8, sedsV sd), (81, mrksV l), (82, .int .i64 l.length), (83, .int .i64 j)] [(4, stpV l s ps es sd0 m1 m2 m3 m4)] true) (fun j => l.length - j) 0 (Nat.zero_le _) (Le.trans (le_erase 200) (le_mk ⟨rfl, rfl, rfl, rfl, int_eq (by rw [LL]), rfl, trivial⟩ ⟨rfl, trivial⟩ rfl)) ?_
    intro j hj
    rcases Nat.lt_or_ge j l.length with hjl | hjl
    · obtain ⟨m, hm⟩ : ∃ m, l[j]? = some m := ⟨_, List.getElem?_eq_getElem hjl⟩
      have hQ := sQueue_ok l s ts 2 m.id (by omega) H.mks H.scs (by omega)
      rw [queue_eq H.scs] at hQ
      have hQl : (rqF l s ts 2 m.id s).length ≤ 8 := by
        unfold rqF; rw [List.length_map]
        have := List.length_filter_le (mineB l s ts 2 m.id) s; omega
      have hany : ∀ x ∈ s, hasP (commF s 2) x.number = true → ((rqF l s ts 2 m.id s).any fun n => n == x.number) = eligB l m.id x := fun x hx hc => by
        rw [rq_has H.scs hx]; unfold mineB; rw [hc, Bool.true_or, Bool.true_and]
      generalize rqF l s ts 2 m.id s = qs at hQ hany hQl
      have LQ : (qs.map encI).length = qs.length := List.length_map ..
      (conv => whnf); (repeat' (first | (refine arith_i ⟨by omega, by omega⟩ ?_; conv => whnf) | (refine arith_u ⟨by omega, by omega⟩ ?_; conv => whnf) | (refine arith_8 ⟨by omega, by omega⟩ ?_; conv => whnf) | (refine need_i (by first | omega | (simp only [List.length_cons, List.length_nil]; omega) | (simp only [List.length_append, List.length_cons, List.length_nil, List.length_map, List.length_replicate, List.length_modify]; omega)) ?_; conv => whnf) | ((with_reducible refine branch_tt ?_); conv => whnf) | ((with_reducible refine branch_ff ?_); conv => whnf) | (with_reducible refine branch_not ?_) | ((refine idx_cs hm ?_); conv => whnf) | ((refine call_e hQ ?_); conv => whnf) | ((with_reducible refine slc_e ?_); conv => whnf) | ((with_reducible refine callS_a ?_); conv => whnf) | ((with_reducible refine bld_a ?_); conv => whnf) | ((with_reducible refine own_e ?_); conv => whnf) | ((with_reducible refine mkmap_b ?_); conv => whnf) | ((with_reducible refine branch_d (fun hq => ?_) (fun hq => ?_)) <;> (try (exfalso; omega)) <;> (conv => whnf)) | ((with_reducible refine branch_e (fun hq => ?_) (fun hq => ?_)) <;> (try (exfalso; omega)) <;> (conv => whnf)) | ((with_reducible refine branch_n (fun hq => ?_) (fun hq => ?_)) <;> (try (exfalso; omega)) <;> (conv => whnf)) | ((with_reducible refine branch_i (fun hq => ?_) (fun hq => ?_)) <;> (try (exfalso; omega)) <;> (conv => whnf))))
      have hgy : ∀ t, t < sd.length → ∃ y, sd[t]? = some y := fun t h => ⟨_, List.getElem?_eq_getElem h⟩
      have hsx : ∀ (t : Nat) (y : Sed), sd[t]? = some y → ∃ x : Scr, Good Try.prog TT false 50 [scrsV s, .int .i64 y.script] (· = .tup [.agg (encR x), .bool true]) ∧ y.script = x.number ∧ (qs.any fun n => n == y.script) = eligB l m.id x := fun t y hy => by
        obtain ⟨⟨k, x, q, hx, hn, hpf, hms⟩, hc⟩ := hsd.ok y (List.mem_of_getElem? hy)
        refine ⟨x, (rScript_ok s y.script H.scs).mono fun r h => ?_, hn, ?_⟩
        · have hf := findS_num H.scs.asc (List.getElem?_eq_some_iff.1 hx).1
          rw [numF_at hx, ← hn] at hf
          unfold ScriptR at h; rw [hf] at h; obtain ⟨x', hx', h⟩ := h; rw [hx] at hx'; injection hx' with hx'; rw [hx']; exact h
        · rw [hn] at hc ⊢; exact hany x (List.mem_of_getElem? hx) hc
      have hgn : ∀ t, t < qs.length → ∃ y, qs[t]? = some y := fun t h => ⟨_, List.getElem?_eq_getElem h⟩
      have hcs : ∀ c : Bool, c = true ∨ c = false := fun c => by cases c <;> simp
      refine loop_i (fun t : Nat => t ≤ sd.length) (fun t => mkSt [(4, .ptr 4 0), (5, tasksV ts), (8, sedsV sd), (14, .ptr 14 0), (15, ints qs), (81, mrksV l), (82, .int .i64 l.length), (83, .int .i64 j), (95, sedsV sd), (96, .int .i64 sd.length), (97, .int .i64 t)] [(4, stpV l s ps es sd0 m1 m2 m3 m4), (14, encM m)] true) (fun t => sd.length - t) 0 (Nat.zero_le _) (Le.trans (le_erase 94) (le_mk ⟨rfl, rfl, rfl, rfl, rfl, rfl, rfl, rfl, rfl, int_eq (by rw [Lsd]), rfl, trivial⟩ ⟨rfl, rfl, trivial⟩ rfl)) ?_
      intro t ht
      rcases Nat.lt_or_ge t sd.length with htl | htl
      · obtain ⟨y, hy⟩ := hgy t htl
        obtain ⟨x, hScr, hyn, hqa⟩ := hsx t y hy
        (conv => whnf); (repeat' (first | (refine arith_i ⟨by omega, by omega⟩ ?_; conv => whnf) | (refine arith_u ⟨by omega, by omega⟩ ?_; conv => whnf) | (refine arith_8 ⟨by omega, by omega⟩ ?_; conv => whnf) | (refine need_i (by first | omega | (simp only [List.length_cons, List.length_nil]; omega) | (simp only [List.length_append, List.length_cons, List.length_nil, List.length_map, List.length_replicate, List.length_modify]; omega)) ?_; conv => whnf) | ((with_reducible refine branch_tt ?_); conv => whnf) | ((with_reducible refine branch_ff ?_); conv => whnf) | (with_reducible refine branch_not ?_) | ((refine idx_cs hy ?_); conv => whnf) | ((refine call_e hScr ?_); conv => whnf) | ((with_reducible refine slc_e ?_); conv => whnf) | ((with_reducible refine callS_a ?_); conv => whnf) | ((with_reducible refine bld_a ?_); conv => whnf) | ((with_reducible refine own_e ?_); conv => whnf) | ((with_reducible refine mkmap_b ?_); conv => whnf) | ((with_reducible refine branch_d (fun hq => ?_) (fun hq => ?_)) <;> (try (exfalso; omega)) <;> (conv => whnf)) | ((with_reducible refine branch_e (fun hq => ?_) (fun hq => ?_)) <;> (try (exfalso; omega)) <;> (conv => whnf)) | ((with_reducible refine branch_n (fun hq => ?_) (fun hq => ?_)) <;> (try (exfalso; omega)) <;> (conv => whnf)) | ((with_reducible refine branch_i (fun hq => ?_) (fun hq => ?_)) <;> (try (exfalso; omega)) <;> (conv => whnf))))
        refine loop_i (fun u : Nat => u ≤ qs.length) (fun u => mkSt [(4, .ptr 4 0), (5, tasksV ts), (8, sedsV sd), (14, .ptr 14 0), (15, ints qs), (17, .ptr 17 0), (18, .ptr 18 0), (19, .bool true), (20, .bool ((qs.take u).any fun n => n == y.script)), (81, mrksV l), (82, .int .i64 l.length), (83, .int .i64 j), (95, sedsV sd), (96, .int .i64 sd.length), (97, .int .i64 t), (109, ints qs), (110, .int .i64 qs.length), (111, .int .i64 u)] [(4, stpV l s ps es sd0 m1 m2 m3 m4), (14, encM m), (17, encSd y), (18, encR x)] true) (fun u => qs.length - u) 0 (Nat.zero_le _) (le_mk ⟨rfl, rfl, rfl, rfl, rfl, rfl, rfl, rfl, rfl, rfl, rfl, rfl, rfl, rfl, rfl, rfl, int_eq (by rw [LQ]), rfl, trivial⟩ ⟨rfl, rfl, rfl, rfl, trivial⟩ rfl) ?_
        intro u hu
        refine (Nat.lt_or_ge u qs.length).elim (fun hul => ?_) (fun hul => ?_)
        · refine (hgn u hul).elim fun n hn => ?_
          have hnx : ((qs.take (u + 1)).any fun n => n == y.script) = (((qs.take u).any fun n => n == y.script) || n == y.script) := by rw [List.take_add_one, hn, List.any_append]; simp
          (conv => whnf); (repeat' (first | (refine arith_i ⟨by omega, by omega⟩ ?_; conv => whnf) | (refine arith_u ⟨by omega, by omega⟩ ?_; conv => whnf) | (refine arith_8 ⟨by omega, by omega⟩ ?_; conv => whnf) | (refine need_i (by first | omega | (simp only [List.length_cons, List.length_nil]; omega) | (simp only [List.length_append, List.length_cons, List.length_nil, List.length_map, List.length_replicate, List.length_modify]; omega)) ?_; conv => whnf) | ((with_reducible refine branch_tt ?_); conv => whnf) | ((with_reducible refine branch_ff ?_); conv => whnf) | (with_reducible refine branch_not ?_) | ((refine idx_cs hn ?_); conv => whnf) | ((with_reducible refine slc_e ?_); conv => whnf) | ((with_reducible refine callS_a ?_); conv => whnf) | ((with_reducible refine bld_a ?_); conv => whnf) | ((with_reducible refine own_e ?_); conv => whnf) | ((with_reducible refine mkmap_b ?_); conv => whnf) | ((with_reducible refine branch_d (fun hq => ?_) (fun hq => ?_)) <;> (try (exfalso; omega)) <;> (conv => whnf)) | ((with_reducible refine branch_e (fun hq => ?_) (fun hq => ?_)) <;> (try (exfalso; omega)) <;> (conv => whnf)) | ((with_reducible refine branch_n (fun hq => ?_) (fun hq => ?_)) <;> (try (exfalso; omega)) <;> (conv => whnf)) | ((with_reducible refine branch_i (fun hq => ?_) (fun hq => ?_)) <;> (try (exfalso; omega)) <;> (conv => whnf))))
          all_goals exact ⟨u + 1, by omega, le_mk ⟨rfl, rfl, rfl, rfl, rfl, rfl, rfl, rfl, bool_eq (by rw [hnx]; first | (rw [hq]; simp; done) | (rw [show ((qs.take u).any fun n => n == y.script) = false by assumption]; simp [hq]; done)), rfl, rfl, rfl, rfl, rfl, rfl, rfl, rfl, rfl, trivial⟩ ⟨rfl, rfl, rfl, rfl, trivial⟩ rfl, by omega⟩
        · have hqa2 : eligB l m.id x = ((qs.take u).any fun n => n == y.script) := by rw [List.take_of_length_le hul, hqa]
          (conv => whnf); (repeat' (first | (refine arith_i ⟨by omega, by omega⟩ ?_; conv => whnf) | (refine arith_u ⟨by omega, by omega⟩ ?_; conv => whnf) | (refine arith_8 ⟨by omega, by omega⟩ ?_; conv => whnf) | (refine need_i (by first | omega | (simp only [List.length_cons, List.length_nil]; omega) | (simp only [List.length_append, List.length_cons, List.length_nil, List.length_map, List.length_replicate, List.length_modify]; omega)) ?_; conv => whnf) | ((with_reducible refine branch_tt ?_); conv => whnf) | ((with_reducible refine branch_ff ?_); conv => whnf) | (with_reducible refine branch_not ?_) | ((((with_reducible refine br_t2 ?_ ?_); focus (simp; done))); conv => whnf) | ((((with_reducible refine br_f2 ?_ ?_); focus (simp; done))); conv => whnf) | ((refine call_e ((rElig_ok l m.id x H.mks).mono fun r h => h.trans (bool_eq hqa2)) ?_); conv => whnf) | ((with_reducible refine slc_e ?_); conv => whnf) | ((with_reducible refine callS_a ?_); conv => whnf) | ((with_reducible refine bld_a ?_); conv => whnf) | ((with_reducible refine own_e ?_); conv => whnf) | ((with_reducible refine mkmap_b ?_); conv => whnf) | ((with_reducible refine branch_d (fun hq => ?_) (fun hq => ?_)) <;> (try (exfalso; omega)) <;> (conv => whnf)) | ((with_reducible refine branch_e (fun hq => ?_) (fun hq => ?_)) <;> (try (exfalso; omega)) <;> (conv => whnf)) | ((with_reducible refine branch_n (fun hq => ?_) (fun hq => ?_)) <;> (try (exfalso; omega)) <;> (conv => whnf)) | ((with_reducible refine branch_i (fun hq => ?_) (fun hq => ?_)) <;> (try (exfalso; omega)) <;> (conv => whnf))))
          all_goals exact ⟨t + 1, by omega, (le_mk (by repeat' (first | exact trivial | rfl | apply And.intro)) (by repeat' (first | exact trivial | rfl | apply And.intro)) rfl), by omega⟩
      · (conv => whnf); (repeat' (first | (refine arith_i ⟨by omega, by omega⟩ ?_; conv => whnf) | (refine arith_u ⟨by omega, by omega⟩ ?_; conv => whnf) | (refine arith_8 ⟨by omega, by omega⟩ ?_; conv => whnf) | (refine need_i (by first | omega | (simp only [List.length_cons, List.length_nil]; omega) | (simp only [List.length_append, List.length_cons, List.length_nil, List.length_map, List.length_replicate, List.length_modify]; omega)) ?_; conv => whnf) | ((with_reducible refine branch_tt ?_); conv => whnf) | ((with_reducible refine branch_ff ?_); conv => whnf) | (with_reducible refine branch_not ?_) | ((with_reducible refine slc_e ?_); conv => whnf) | ((with_reducible refine callS_a ?_); conv => whnf) | ((with_reducible refine bld_a ?_); conv => whnf) | ((with_reducible refine own_e ?_); conv => whnf) | ((with_reducible refine mkmap_b ?_); conv => whnf) | ((with_reducible refine branch_d (fun hq => ?_) (fun hq => ?_)) <;> (try (exfalso; omega)) <;> (conv => whnf)) | ((with_reducible refine branch_e (fun hq => ?_) (fun hq => ?_)) <;> (try (exfalso; omega)) <;> (conv => whnf)) | ((with_reducible refine branch_n (fun hq => ?_) (fun hq => ?_)) <;> (try (exfalso; omega)) <;> (conv => whnf)) | ((with_reducible refine branch_i (fun hq => ?_) (fun hq => ?_)) <;> (try (exfalso; omega)) <;> (conv => whnf))))
        exact ⟨j + 1, by omega, (le_mk (by repeat' (first | exact trivial | rfl | apply And.intro)) (by repeat' (first | exact trivial | rfl | apply And.intro)) rfl), by omega⟩
    · (conv => whnf); (repeat' (first | (refine arith_i ⟨by omega, by omega⟩ ?_; conv => whnf) | (refine arith_u ⟨by omega, by omega⟩ ?_; conv => whnf) | (refine arith_8 ⟨by omega, by omega⟩ ?_; conv => whnf) | (refine need_i (by first | omega | (simp only [List.length_cons, List.length_nil]; omega) | (simp only [List.length_append, List.length_cons, List.length_nil, List.length_map, List.length_replicate, List.length_modify]; omega)) ?_; conv => whnf) | ((with_reducible refine branch_tt ?_); conv => whnf) | ((with_reducible refine branch_ff ?_); conv => whnf) | (with_reducible refine branch_not ?_) | ((refine call_e sane26_ok ?_); conv => whnf) | ((with_reducible refine slc_e ?_); conv => whnf) | ((with_reducible refine callS_a ?_); conv => whnf) | ((with_reducible refine bld_a ?_); conv => whnf) | ((with_reducible refine own_e ?_); conv => whnf) | ((with_reducible refine mkmap_b ?_); conv => whnf) | ((with_reducible refine branch_d (fun hq => ?_) (fun hq => ?_)) <;> (try (exfalso; omega)) <;> (conv => whnf)) | ((with_reducible refine branch_e (fun hq => ?_) (fun hq => ?_)) <;> (try (exfalso; omega)) <;> (conv => whnf)) | ((with_reducible refine branch_n (fun hq => ?_) (fun hq => ?_)) <;> (try (exfalso; omega)) <;> (conv => whnf)) | ((with_reducible refine branch_i (fun hq => ?_) (fun hq => ?_)) <;> (try (exfalso; omega)) <;> (conv => whnf))))
      exact ret_p rfl rfl
end Go.Proofs.Ytpmoflggmdfmnaa
end

/- From a contract of the interpreter to a law's call: any arguments; slices of strings. -/
section
namespace Go.Proofs.Ytpmoflggmdfmnaa
set_option linter.unusedVariables false
set_option linter.unusedSimpArgs false
set_option linter.unnecessarySimpa false
set_option linter.unusedSectionVars false
open Go.RowKit

theorem law_all {f : Nat} {args : List AV} (hG : Good Try.prog TT false f args (· = .bool true)) {w : World} {us : List Value} (h : All2 (RepV w No) args us) :
    Calls Try.prog f us.toArray w (fun e w' => e = .returned (.bool true) ∧ Chg No w w') := by
  have hx : ∀ b, GX (G0 none No (none, 0, 0)) b → False := fun b hb => by rcases hb with hb | hb <;> simp_all [GM, G0, No]
  refine Calls.mono (hG.2 w No none us (none, 0, 0) (fun b hb => absurd hb no_) rfl (h.mono fun v u hr => RC.ra (RepV.rc (RepV.move hr (fun _ _ _ => rfl) fun b _ hb => (hx b hb).elim))) nofun) ?_
  rintro e w' ⟨u, r, rfl, rfl, hr, hc, -⟩
  have hu : RepV w' (GX (G0 none No (none, 0, 0))) (.bool true) u := hr
  cases hu
  exact ⟨rfl, hc.mono fun b _ hb => by cases hb⟩
theorem ints_row {w : World} {a : Option Addr} {len cap : Nat} {zs : List Int} (h : Ints w No a len cap zs) : RepV w No (ints zs) (.slice a len cap) := ints_rep h
theorem ints_max {w : World} {a : Option Addr} {len cap : Nat} {zs : List Int} (h : Ints w No a len cap zs) (hc : cap ≤ maxLen) : zs.length ≤ 9223372036854775807 := by
  have h1 := h.len
  have h2 := h.cap
  have h3 : maxLen = 9223372036854775807 := rfl
  omega
end Go.Proofs.Ytpmoflggmdfmnaa
end
