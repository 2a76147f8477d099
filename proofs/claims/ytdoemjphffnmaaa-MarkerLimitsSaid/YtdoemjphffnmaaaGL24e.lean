/- Layer 24 by the interpreter: the law MarkerLimits. -/
import Derived.Test.YtdoemjphffnmaaaGL24d
namespace Go.Proofs.Ytdoemjphffnmaaa
set_option linter.unusedVariables false
set_option linter.unusedSimpArgs false
set_option linter.unnecessarySimpa false
set_option linter.unusedSectionVars false
set_option maxRecDepth 10000
open Go.RowKit

def mkM (p : Int) (i : Nat) : Mrk := ⟨1 + i * 6, 99, 1 + Int.tmod i 3, 60, [p]⟩
def limM (p : Int) (k : Nat) : List Mrk := (List.range k).map (mkM p)
def mkS (i : Nat) : Scr := ⟨9000 + i, 0, 9000 + i, 99, 31, List.replicate 12 0, []⟩
def limS (k : Nat) : List Scr := (List.range k).map mkS
theorem limM_at {p : Int} {n k : Nat} {m : Mrk} (h : (limM p n)[k]? = some m) : k < n ∧ m = mkM p k := by
  have hk : k < n := by have := (List.getElem?_eq_some_iff.1 h).1; simpa [limM] using this
  simp [limM, hk] at h
  exact ⟨hk, h.symm⟩
theorem limS_at {n k : Nat} {s : Scr} (h : (limS n)[k]? = some s) : k < n ∧ s = mkS k := by
  have hk : k < n := by have := (List.getElem?_eq_some_iff.1 h).1; simpa [limS] using this
  simp [limS, hk] at h
  exact ⟨hk, h.symm⟩
theorem limM_len {p : Int} {n : Nat} : (limM p n).length = n := by simp [limM]
theorem limS_len {n : Nat} : (limS n).length = n := by simp [limS]
theorem mkM_good {p : Int} (hp : 0 ≤ p ∧ p ≤ 31) {k : Nat} (hk : k < 16) : GoodM (mkM p k) := by
  have b1 := Int.tmod_lt_of_pos (k : Int) (show (0 : Int) < 3 by decide)
  have b2 := Int.tmod_nonneg (b := 3) (show (0 : Int) ≤ k by omega)
  refine ⟨?_, ?_, ?_, ?_, ?_, ?_, ?_⟩
  · show 1 ≤ 1 + (k : Int) * 6 ∧ 1 + (k : Int) * 6 ≤ 99; omega
  · show -1 ≤ (99 : Int) ∧ (99 : Int) ≤ 99; omega
  · show 1 ≤ 1 + Int.tmod k 3 ∧ 1 + Int.tmod k 3 ≤ 3; omega
  · show 0 ≤ (60 : Int) ∧ (60 : Int) ≤ 60; omega
  · intro i x hx
    have hx' : [p][i]? = some x := hx
    have hi := (List.getElem?_eq_some_iff.1 hx').1
    have : i = 0 := by simpa using hi
    subst this
    simp at hx'
    subst hx'
    simp [papB]; omega
  · intro i h0 h1
    have : i < 1 := h1
    omega
  · show 1 ≤ 1000; omega
theorem limM_asc {p : Int} {n : Nat} : AscM (limM p n) := by
  intro i j a b hij ha hb
  rw [(limM_at ha).2, (limM_at hb).2]
  show 1 + (i : Int) * 6 < 1 + (j : Int) * 6
  omega
theorem mkS_good {k : Nat} (hk : k < 60) : GoodS (mkS k) := by
  refine ⟨rfl, ?_, ?_, ?_, ?_⟩
  · show 0 ≤ 9000 + (k : Int) ∧ 9000 + (k : Int) ≤ 9999; omega
  · show 0 ≤ (99 : Int) ∧ (99 : Int) ≤ 99; omega
  · show 0 ≤ (31 : Int) ∧ (31 : Int) ≤ 31; omega
  · show 9000 + (k : Int) = 0 * 10000 + (9000 + (k : Int)); omega
theorem limS_asc {n : Nat} : AscS (limS n) := by
  intro k a b ha hb
  rw [(limS_at ha).2, (limS_at hb).2]
  show 9000 + (k : Int) < 9000 + ((k + 1 : Nat) : Int)
  omega
def longS : List Scr := [mkS 0, mkS 1, ⟨9002, 0, 9002, 99, 31, List.replicate 13 0, []⟩]
theorem three {α : Type} {a b c : α} {k : Nat} {x : α} (h : [a, b, c][k]? = some x) : (k = 0 ∧ x = a) ∨ (k = 1 ∧ x = b) ∨ (k = 2 ∧ x = c) := by
  match k, h with
  | 0, h => simp at h; exact .inl ⟨rfl, h.symm⟩
  | 1, h => simp at h; exact .inr (.inl ⟨rfl, h.symm⟩)
  | 2, h => simp at h; exact .inr (.inr ⟨rfl, h.symm⟩)
  | k + 3, h => simp at h
theorem snocM {t e : Nat} {p : Int} {k : Nat} {cs : List AV} (h : cs = encM (mkM p k)) : AV.own t e 5 ((limM p k).map encM ++ [cs]) = .own t e 5 ((limM p (k + 1)).map encM) := by
  subst h
  rw [limM, limM, List.range_succ]; simp
theorem snocS {t e : Nat} {k : Nat} {cs : List AV} (h : cs = encR (mkS k)) : AV.own t e 7 ((limS k).map encR ++ [cs]) = .own t e 7 ((limS (k + 1)).map encR) := by
  subst h
  rw [limS, limS, List.range_succ]; simp
theorem limits_law (n : Int) (hn : 0 ≤ n ∧ n ≤ 255) : Good Try.prog TT false 4 [.int .u8 n] (· = .bool true) := by
  have b1 := Int.tmod_lt_of_pos n (show (0 : Int) < 32 by decide)
  have b2 := Int.tmod_nonneg (a := n) (b := 32) hn.1
  refine good_of_c (fun i => Nat.beq i 13 || Nat.beq i 15) mixed tabOk Try.func4 rfl rfl Try.ntmps4 Try.results4 rfl rfl ?_
  (conv => whnf); (repeat (first | (refine arith_i ⟨by omega, by omega⟩ ?_; conv => whnf) | (refine need_i (by first | omega | (simp only [List.length_cons, List.length_nil]; omega)) ?_; conv => whnf) | ((with_reducible refine branch_tt ?_); conv => whnf) | ((with_reducible refine branch_ff ?_); conv => whnf) | (with_reducible refine branch_not ?_)))
  refine loop_i (fun k : Nat => k ≤ 16) (fun k => mkSt [(0, .int .u8 n), (3, .own 200 38 5 ((limM (n.tmod 32) k).map encM)), (4, .int .i64 k)] [] false) (fun k => 16 - k) 0 (by decide) (Le.trans (le_adopt 3 200 38 5 rfl) (le_mk ⟨rfl, rfl, rfl, trivial⟩ trivial rfl)) ?_
  intro k hk
  have L : ((limM (n.tmod 32) k).map encM).length = k := by rw [List.length_map, limM_len]
  have c1 := Int.tmod_lt_of_pos (k : Int) (show (0 : Int) < 3 by decide)
  have c2 := Int.tmod_nonneg (b := 3) (show (0 : Int) ≤ k by omega)
  (conv => whnf); (repeat (first | (refine arith_i ⟨by omega, by omega⟩ ?_; conv => whnf) | (refine need_i (by first | omega | (simp only [List.length_cons, List.length_nil]; omega)) ?_; conv => whnf) | ((with_reducible refine branch_tt ?_); conv => whnf) | ((with_reducible refine branch_ff ?_); conv => whnf) | (with_reducible refine branch_not ?_)))
  refine branch_d (fun h => ?_) (fun h => ?_)
  · (conv => whnf); (repeat (first | (refine arith_i ⟨by omega, by omega⟩ ?_; conv => whnf) | (refine need_i (by first | omega | (simp only [List.length_cons, List.length_nil]; omega)) ?_; conv => whnf) | ((with_reducible refine branch_tt ?_); conv => whnf) | ((with_reducible refine branch_ff ?_); conv => whnf) | (with_reducible refine branch_not ?_)))
    exact ⟨k + 1, by omega, le_mk ⟨rfl, snocM rfl, rfl, trivial⟩ trivial rfl, by omega⟩
  · have hk16 : k = 16 := by omega
    have hgM : ∀ (j : Nat) (m : Mrk), (limM (n.tmod 32) k)[j]? = some m → GoodM m := fun j m h => by
      obtain ⟨h1, rfl⟩ := limM_at h
      exact mkM_good (by omega) (by omega)
    have hAM : AscM (limM (n.tmod 32) k) := limM_asc
    have hLM : (limM (n.tmod 32) k).length = 16 := by rw [limM_len, hk16]
    generalize limM (n.tmod 32) k = lm at L hgM hAM hLM ⊢
    clear h c1 c2
    (conv => whnf); (repeat (first | (refine arith_i ⟨by omega, by omega⟩ ?_; conv => whnf) | (refine need_i (by first | omega | (simp only [List.length_cons, List.length_nil]; omega)) ?_; conv => whnf) | ((with_reducible refine branch_tt ?_); conv => whnf) | ((with_reducible refine branch_ff ?_); conv => whnf) | (with_reducible refine branch_not ?_)))
    refine loop_i (fun k : Nat => k ≤ 60) (fun k => mkSt [(3, .own 200 38 5 (lm.map encM)), (5, .own 201 36 7 ((limS k).map encR)), (6, .int .i64 k)] [] false) (fun k => 60 - k) 0 (by decide) (Le.trans (le_adopt 5 201 36 7 rfl) (le_mk ⟨rfl, rfl, rfl, trivial⟩ trivial rfl)) ?_
    intro k2 hk2
    have L2 : ((limS k2).map encR).length = k2 := by rw [List.length_map, limS_len]
    (conv => whnf); (repeat (first | (refine arith_i ⟨by omega, by omega⟩ ?_; conv => whnf) | (refine need_i (by first | omega | (simp only [List.length_cons, List.length_nil]; omega)) ?_; conv => whnf) | ((with_reducible refine branch_tt ?_); conv => whnf) | ((with_reducible refine branch_ff ?_); conv => whnf) | (with_reducible refine branch_not ?_)))
    refine branch_d (fun h => ?_) (fun h => ?_)
    · (conv => whnf); (repeat (first | (refine arith_i ⟨by omega, by omega⟩ ?_; conv => whnf) | (refine need_i (by first | omega | (simp only [List.length_cons, List.length_nil]; omega)) ?_; conv => whnf) | ((with_reducible refine branch_tt ?_); conv => whnf) | ((with_reducible refine branch_ff ?_); conv => whnf) | (with_reducible refine branch_not ?_)))
      refine nils_i [.int .i64 (9000 + k2), .int .i64 0, .int .i64 (9000 + k2), .int .i64 99, .int .i64 31, .lst 1 (List.replicate (Int.toNat 12) [.int .i64 0]), .lst 1 []] ⟨rfl, rfl, rfl, rfl, rfl, rfl, pc_nil 1, trivial⟩ ?_
      (conv => whnf); (repeat (first | (refine arith_i ⟨by omega, by omega⟩ ?_; conv => whnf) | (refine need_i (by first | omega | (simp only [List.length_cons, List.length_nil]; omega)) ?_; conv => whnf) | ((with_reducible refine branch_tt ?_); conv => whnf) | ((with_reducible refine branch_ff ?_); conv => whnf) | (with_reducible refine branch_not ?_)))
      exact ⟨k2 + 1, by omega, le_mk ⟨rfl, snocS rfl, rfl, trivial⟩ trivial rfl, by omega⟩
    · have hk60 : k2 = 60 := by omega
      have hgS : ∀ (j : Nat) (s : Scr), (limS k2)[j]? = some s → GoodS s := fun j s h => by
        obtain ⟨h1, rfl⟩ := limS_at h
        exact mkS_good (by omega)
      have hpS : ∀ (j : Nat) (s : Scr), (limS k2)[j]? = some s → s.pages.length ≤ 12 := fun j s h => by
        obtain ⟨h1, rfl⟩ := limS_at h
        show (List.replicate 12 (0 : Int)).length ≤ 12
        simp
      have hAS : AscS (limS k2) := limS_asc
      have hLS : (limS k2).length = 60 := by rw [limS_len, hk60]
      have h3S : ((limS k2).map encR).take 3 = [encR (mkS 0), encR (mkS 1), encR (mkS 2)] := by
        rw [hk60]; rfl
      have h3T : (limS k2).take 3 = [mkS 0, mkS 1, mkS 2] := by rw [hk60]; rfl
      generalize limS k2 = ls at L2 hgS hpS hAS hLS h3S h3T ⊢
      clear h
      (conv => whnf); (repeat (first | (refine arith_i ⟨by omega, by omega⟩ ?_; conv => whnf) | (refine need_i (by first | omega | (simp only [List.length_cons, List.length_nil]; omega)) ?_; conv => whnf) | ((with_reducible refine branch_tt ?_); conv => whnf) | ((with_reducible refine branch_ff ?_); conv => whnf) | (with_reducible refine branch_not ?_)))
      refine nils_i [.int .i64 99, .int .i64 0, .int .i64 1, .int .i64 0, .lst 1 []] ⟨rfl, rfl, rfl, rfl, pc_nil 1, trivial⟩ ?_
      (conv => whnf); (repeat (first | (refine arith_i ⟨by omega, by omega⟩ ?_; conv => whnf) | (refine need_i (by first | omega | (simp only [List.length_cons, List.length_nil]; omega)) ?_; conv => whnf) | ((with_reducible refine branch_tt ?_); conv => whnf) | ((with_reducible refine branch_ff ?_); conv => whnf) | (with_reducible refine branch_not ?_)))
      refine nils_i [.int .i64 310000, .int .i64 31, .int .i64 0, .int .i64 0, .int .i64 0, .lst 1 [], .lst 1 []] ⟨rfl, rfl, rfl, rfl, rfl, pc_nil 1, pc_nil 1, trivial⟩ ?_
      (conv => whnf); (repeat (first | (refine arith_i ⟨by omega, by omega⟩ ?_; conv => whnf) | (refine need_i (by first | omega | (simp only [List.length_cons, List.length_nil]; omega)) ?_; conv => whnf) | ((with_reducible refine branch_tt ?_); conv => whnf) | ((with_reducible refine branch_ff ?_); conv => whnf) | (with_reducible refine branch_not ?_)))
      refine rest_i (mkSt [(3, .own 200 38 5 (lm.map encM)), (5, .own 201 36 7 (ls.map encR)), (7, .own 42 38 5 (lm.map encM ++ [[.int .i64 99, .int .i64 0, .int .i64 1, .int .i64 0, .lst 1 []]])), (8, .own 47 36 7 (ls.map encR ++ [[.int .i64 310000, .int .i64 31, .int .i64 0, .int .i64 0, .int .i64 0, .lst 1 [], .lst 1 []]]))] [] false) (le_mk ⟨rfl, rfl, rfl, rfl, trivial⟩ trivial rfl) ?_
      (conv => whnf); (repeat (first | (refine arith_i ⟨by omega, by omega⟩ ?_; conv => whnf) | (refine need_i (by first | omega | (simp only [List.length_cons, List.length_nil]; omega)) ?_; conv => whnf) | ((with_reducible refine branch_tt ?_); conv => whnf) | ((with_reducible refine branch_ff ?_); conv => whnf) | (with_reducible refine branch_not ?_)))
      have e3 : List.drop (Int.toNat 0) (List.take (Int.toNat 3) (ls.map encR)) = (ls.take 3).map encR := (List.map_take ..).symm
      have h3 : ls.take 3 = [mkS 0, mkS 1, mkS 2] := h3T
      refine sub_i ⟨by omega, by omega, by omega⟩ ?_
      rw [e3]
      generalize ls.take 3 = l3 at h3 ⊢
      have L3 : (l3.map encR).length = 3 := by rw [h3]; rfl
      have L3' : l3.length = 3 := by rw [h3]; rfl
      (conv => whnf); (repeat (first | (refine arith_i ⟨by omega, by omega⟩ ?_; conv => whnf) | (refine need_i (by first | omega | (simp only [List.length_cons, List.length_nil]; omega)) ?_; conv => whnf) | ((with_reducible refine branch_tt ?_); conv => whnf) | ((with_reducible refine branch_ff ?_); conv => whnf) | (with_reducible refine branch_not ?_)))
      refine idx_m (by omega) (by omega) fun x hx => ?_
      have hx2 : x = mkS 2 := by
        rw [h3] at hx
        have : some (mkS 2) = some x := hx
        injection this with this
        exact this.symm
      have hmod : (l3.map encR).modify (Int.toNat 2) (fun y => y.set (0 + 5) (.lst 1 (List.replicate (Int.toNat 13) [.int .i64 0]))) = longS.map encR := by rw [h3]; rfl
      (conv => whnf); (repeat (first | (refine arith_i ⟨by omega, by omega⟩ ?_; conv => whnf) | (refine need_i (by first | omega | (simp only [List.length_cons, List.length_nil]; omega)) ?_; conv => whnf) | ((with_reducible refine branch_tt ?_); conv => whnf) | ((with_reducible refine branch_ff ?_); conv => whnf) | (with_reducible refine branch_not ?_)))
      refine rest_i (mkSt [(3, .own 200 38 5 (lm.map encM)), (5, .lst 7 (ls.map encR)), (7, .own 42 38 5 (lm.map encM ++ [[.int .i64 99, .int .i64 0, .int .i64 1, .int .i64 0, .lst 1 []]])), (8, .own 47 36 7 (ls.map encR ++ [[.int .i64 310000, .int .i64 31, .int .i64 0, .int .i64 0, .int .i64 0, .lst 1 [], .lst 1 []]])), (9, .own 53 36 7 (longS.map encR))] [] false) (le_mk ⟨rfl, rfl, rfl, rfl, congrArg (AV.own 53 36 7) hmod, trivial⟩ trivial rfl) ?_
      (conv => whnf); (repeat (first | (refine arith_i ⟨by omega, by omega⟩ ?_; conv => whnf) | (refine need_i (by first | omega | (simp only [List.length_cons, List.length_nil]; omega)) ?_; conv => whnf) | ((with_reducible refine branch_tt ?_); conv => whnf) | ((with_reducible refine branch_ff ?_); conv => whnf) | (with_reducible refine branch_not ?_)))
      have hMore : Good Try.prog TT false 15 [.lst 5 (lm.map encM ++ [[.int .i64 99, .int .i64 0, .int .i64 1, .int .i64 0, .lst 1 []]])] (· = .int .i64 3) := by
        have := check_long (lm ++ [⟨99, 0, 1, 0, []⟩]) (by simp; omega)
        rw [mrksV, List.map_append] at this
        exact this
      have hMoreS : Good Try.prog TT false 16 [.lst 7 (ls.map encR ++ [[.int .i64 310000, .int .i64 31, .int .i64 0, .int .i64 0, .int .i64 0, .lst 1 [], .lst 1 []]])] (· = .int .i64 3) := by
        have := checkScripts_long (ls ++ [⟨310000, 31, 0, 0, 0, [], []⟩]) (by simp; omega)
        rw [scrsV, List.map_append] at this
        exact this
      have hAll : Good Try.prog TT false 16 [scrsV ls] (· = .int .i64 0) :=
        (checkScripts_ok ls ls.length (by omega) (Nat.le_refl _) hgS (fun k s _ h => hpS k s h) (fun s h => by rw [List.getElem?_eq_none (Nat.le_refl _)] at h; cases h) hAS).mono fun r h => h.trans (int_eq (if_pos rfl))
      have hLong : Good Try.prog TT false 16 [scrsV longS] (· = .int .i64 1) :=
        checkScripts_ok longS 2 (by decide) (by decide) (fun k s h => by rcases three h with ⟨-, rfl⟩ | ⟨-, rfl⟩ | ⟨-, rfl⟩; exact mkS_good (by omega); exact mkS_good (by omega); exact ⟨by decide, by decide, by decide, by decide, by decide⟩) (fun k s hk h => by rcases three h with ⟨-, rfl⟩ | ⟨-, rfl⟩ | ⟨h2, rfl⟩; decide; decide; omega) (fun s h => by
          have : s = ⟨9002, 0, 9002, 99, 31, List.replicate 13 0, []⟩ := by simp [longS] at h; exact h.symm
          subst this; decide) (fun k a b ha hb => by rcases three ha with ⟨rfl, rfl⟩ | ⟨rfl, rfl⟩ | ⟨rfl, rfl⟩ <;> rcases three hb with ⟨h, rfl⟩ | ⟨h, rfl⟩ | ⟨h, rfl⟩ <;> first | omega | decide)
      refine call_e (check_ok lm (by omega) hgM hAM) ?_
      (conv => whnf); (repeat (first | (refine arith_i ⟨by omega, by omega⟩ ?_; conv => whnf) | (refine need_i (by first | omega | (simp only [List.length_cons, List.length_nil]; omega)) ?_; conv => whnf) | ((with_reducible refine branch_tt ?_); conv => whnf) | ((with_reducible refine branch_ff ?_); conv => whnf) | (with_reducible refine branch_not ?_)))
      refine branch_t (by decide) ?_
      (conv => whnf); (repeat (first | (refine arith_i ⟨by omega, by omega⟩ ?_; conv => whnf) | (refine need_i (by first | omega | (simp only [List.length_cons, List.length_nil]; omega)) ?_; conv => whnf) | ((with_reducible refine branch_tt ?_); conv => whnf) | ((with_reducible refine branch_ff ?_); conv => whnf) | (with_reducible refine branch_not ?_)))
      refine call_e hAll ?_
      (conv => whnf); (repeat (first | (refine arith_i ⟨by omega, by omega⟩ ?_; conv => whnf) | (refine need_i (by first | omega | (simp only [List.length_cons, List.length_nil]; omega)) ?_; conv => whnf) | ((with_reducible refine branch_tt ?_); conv => whnf) | ((with_reducible refine branch_ff ?_); conv => whnf) | (with_reducible refine branch_not ?_)))
      refine branch_t (by decide) ?_
      (conv => whnf); (repeat (first | (refine arith_i ⟨by omega, by omega⟩ ?_; conv => whnf) | (refine need_i (by first | omega | (simp only [List.length_cons, List.length_nil]; omega)) ?_; conv => whnf) | ((with_reducible refine branch_tt ?_); conv => whnf) | ((with_reducible refine branch_ff ?_); conv => whnf) | (with_reducible refine branch_not ?_)))
      refine call_e hMore ?_
      (conv => whnf); (repeat (first | (refine arith_i ⟨by omega, by omega⟩ ?_; conv => whnf) | (refine need_i (by first | omega | (simp only [List.length_cons, List.length_nil]; omega)) ?_; conv => whnf) | ((with_reducible refine branch_tt ?_); conv => whnf) | ((with_reducible refine branch_ff ?_); conv => whnf) | (with_reducible refine branch_not ?_)))
      refine branch_t (by decide) ?_
      (conv => whnf); (repeat (first | (refine arith_i ⟨by omega, by omega⟩ ?_; conv => whnf) | (refine need_i (by first | omega | (simp only [List.length_cons, List.length_nil]; omega)) ?_; conv => whnf) | ((with_reducible refine branch_tt ?_); conv => whnf) | ((with_reducible refine branch_ff ?_); conv => whnf) | (with_reducible refine branch_not ?_)))
      refine call_e hMoreS ?_
      (conv => whnf); (repeat (first | (refine arith_i ⟨by omega, by omega⟩ ?_; conv => whnf) | (refine need_i (by first | omega | (simp only [List.length_cons, List.length_nil]; omega)) ?_; conv => whnf) | ((with_reducible refine branch_tt ?_); conv => whnf) | ((with_reducible refine branch_ff ?_); conv => whnf) | (with_reducible refine branch_not ?_)))
      refine branch_t (by decide) ?_
      (conv => whnf); (repeat (first | (refine arith_i ⟨by omega, by omega⟩ ?_; conv => whnf) | (refine need_i (by first | omega | (simp only [List.length_cons, List.length_nil]; omega)) ?_; conv => whnf) | ((with_reducible refine branch_tt ?_); conv => whnf) | ((with_reducible refine branch_ff ?_); conv => whnf) | (with_reducible refine branch_not ?_)))
      refine call_e hLong ?_
      (conv => whnf); (repeat (first | (refine arith_i ⟨by omega, by omega⟩ ?_; conv => whnf) | (refine need_i (by first | omega | (simp only [List.length_cons, List.length_nil]; omega)) ?_; conv => whnf) | ((with_reducible refine branch_tt ?_); conv => whnf) | ((with_reducible refine branch_ff ?_); conv => whnf) | (with_reducible refine branch_not ?_)))
      refine branch_t (by decide) ?_
      (conv => whnf); (repeat (first | (refine arith_i ⟨by omega, by omega⟩ ?_; conv => whnf) | (refine need_i (by first | omega | (simp only [List.length_cons, List.length_nil]; omega)) ?_; conv => whnf) | ((with_reducible refine branch_tt ?_); conv => whnf) | ((with_reducible refine branch_ff ?_); conv => whnf) | (with_reducible refine branch_not ?_)))
      refine call_e sane_ok ?_
      (conv => whnf); (repeat (first | (refine arith_i ⟨by omega, by omega⟩ ?_; conv => whnf) | (refine need_i (by first | omega | (simp only [List.length_cons, List.length_nil]; omega)) ?_; conv => whnf) | ((with_reducible refine branch_tt ?_); conv => whnf) | ((with_reducible refine branch_ff ?_); conv => whnf) | (with_reducible refine branch_not ?_)))
      exact ret_p rfl rfl
end Go.Proofs.Ytdoemjphffnmaaa
