/- Several texts in one: GL09r, GL10j, GL10k, GL11a, GL11b, GL11c, GL10l, Pl11, GL11q, Srt, Shl, GL11d. -/
import Derived.Test.YtengafkfgcdpeaaV4
import Derived.Test.YtengafkfgcdpeaaMB
import Derived.Lib.SlicesCompact
import Derived.Test.YtengafkfgcdpeaaV1
import Derived.Shelf.Sort.Plain
import Derived.Shelf.Slices.In.SortNone
import Derived.Shelf.Slices.Reverse
import Derived.Sort.OwnSortedInts
import Derived.Shelf.Slices.CompactI
/- Layer 9: a tree that the tape makes in full, and what it proves; the law OptimalityBest. -/
section
namespace Go.Proofs.Ytengafkfgcdpeaa
set_option linter.unusedVariables false
set_option linter.unusedSimpArgs false
set_option linter.unnecessarySimpa false
set_option linter.unusedSectionVars false
set_option maxRecDepth 10000
open Go.RowKit

theorem first_spec {st : List Int} : ∀ (rows : List Row) (k : Nat), firstFrom st k rows = -1 ∨ ∃ j, j < rows.length ∧ firstFrom st k rows = ((k + j : Nat) : Int) ∧ blockedB st (rowAt rows j) = true
  | [], _ => .inl rfl
  | r :: rs, k => by
    rw [firstFrom]
    split
    · next h => exact .inr ⟨0, by simp, by simp, by simpa [rowAt] using h⟩
    · rcases first_spec (st := st) rs (k + 1) with h | ⟨j, h1, h2, h3⟩
      · exact .inl h
      · exact .inr ⟨j + 1, by simp; omega, by rw [h2]; omega, by simpa [rowAt] using h3⟩
theorem dead_row {P : Prog} {s : List Int} (h : 0 ≤ deadF P s) : deadF P s < P.rows.length ∧ blockedB s (rowAt P.rows (deadF P s).toNat) = true := by
  unfold deadF at *
  cases hd : deadB P s with
  | false => rw [hd] at h; simp at h
  | true =>
    rw [hd] at h
    simp only [if_true] at h ⊢
    rcases first_spec (st := s) P.rows 0 with h1 | ⟨j, h1, h2, h3⟩
    · omega
    · rw [h2]
      refine ⟨by omega, ?_⟩
      rw [Int.toNat_natCast, Nat.zero_add]
      exact h3
theorem goP_ok {P : Prog} : ∀ (ss : List (List Int)) (ns : List Nd) (best : Int) (sm : Bool), (∀ (j : Nat) s n, ss[j]? = some s → ns[j]? = some n → n.kind = 2 → blockedB s (rowAt P.rows n.row.toNat) = true) → (goP P ss ns best sm).2.2 = 0
  | [], ns, best, sm, h => by simp only [goP]
  | s :: ss, [], best, sm, h => by simp only [goP]
  | s :: ss, n :: ns, best, sm, h => by
    have ih := fun b m => goP_ok ss ns b m fun j s n h1 h2 => h (j + 1) s n (by simpa using h1) (by simpa using h2)
    have h0 := h 0 s n rfl rfl
    rw [goP]
    split
    · next h2 => rw [if_neg (by rw [h0 h2]; decide)]; exact ih _ _
    · split
      · exact ih _ _
      · exact ih _ _
theorem goP_at {P : Prog} : ∀ (ss : List (List Int)) (ns : List Nd) (best : Int) (sm : Bool) (b : Int), goP P ss ns best sm = (b, true, 0) → (sm = true ∧ b = best) ∨ ∃ (j : Nat) (s : List Int) (n : Nd), ss[j]? = some s ∧ ns[j]? = some n ∧ n.kind = 3 ∧ b = boundF P s n
  | [], ns, best, sm, b, h => by
    simp only [goP, Prod.mk.injEq] at h
    exact .inl ⟨h.2.1, h.1.symm⟩
  | s :: ss, [], best, sm, b, h => by
    simp only [goP, Prod.mk.injEq] at h
    exact .inl ⟨h.2.1, h.1.symm⟩
  | s :: ss, n :: ns, best, sm, b, h => by
    have up : ((∃ (j : Nat) (s : List Int) (n : Nd), ss[j]? = some s ∧ ns[j]? = some n ∧ n.kind = 3 ∧ b = boundF P s n)) → ∃ (j : Nat) (s' : List Int) (n' : Nd), (s :: ss)[j]? = some s' ∧ (n :: ns)[j]? = some n' ∧ n'.kind = 3 ∧ b = boundF P s' n' := fun ⟨j, s', n', h1, h2, h3⟩ => ⟨j + 1, s', n', by simpa using h1, by simpa using h2, h3⟩
    rw [goP] at h
    split at h
    · split at h
      · simp at h
      · exact (goP_at ss ns best sm b h).imp id up
    · split at h
      · next h3 =>
        rcases goP_at ss ns _ true b h with ⟨-, e⟩ | e
        · split at e
          · exact .inr ⟨0, s, n, rfl, rfl, h3, e⟩
          · next hno => exact .inl ⟨by cases sm with | true => rfl | false => exact absurd (.inl rfl) hno, e⟩
        · exact .inr (up e)
      · exact (goP_at ss ns best sm b h).imp id up
/-- The bound of a state without undecided options. -/
theorem bound_decided {P : Prog} {s : List Int} {t : Nat} (hl : s.length = P.costs.length) (hst : AllTo triB s s.length) (hne : ∀ x ∈ s, x ≠ -1) (hc : Compl s t) : boundF P s ⟨3, 0, 0, 0, -1, 0, 1⟩ = bitSum P.costs t P.costs.length := by
  have hsum : ∀ k, k ≤ s.length → sumN (fun i => contr (nth s i) (nodeV P ⟨3, 0, 0, 0, -1, 0, 1⟩ i)) k = bitSum P.costs t k := by
    intro k
    induction k with
    | zero => intro _; rfl
    | succ k ih =>
      intro hk
      rw [sumN, bitSum, ih (by omega)]
      congr 1
      have h1 := hst k (by omega)
      rw [triB_iff] at h1
      have h2 := hne _ (nth_mem (show k < s.length by omega))
      have h3 := hc k (by omega)
      have hn : nodeV P ⟨3, 0, 0, 0, -1, 0, 1⟩ k = nth P.costs k := by simp [nodeV]
      rw [hn, contr]
      by_cases e : nth s k = 1
      · rw [if_pos e, if_pos (h3.1 e)]
      · have e0 : nth s k = 0 := by omega
        rw [if_neg e, if_neg h2, if_neg (by rw [h3.2 e0]; decide)]
  have htot : totF P s ⟨3, 0, 0, 0, -1, 0, 1⟩ P.costs.length = bitSum P.costs t P.costs.length := by
    rw [totF, hsum _ (by omega)]
    have : startF P ⟨3, 0, 0, 0, -1, 0, 1⟩ = 0 := by simp [startF]
    rw [this]; omega
  rw [boundF, htot]
  simp [ceilF]
end Go.Proofs.Ytengafkfgcdpeaa
end

/- Layer 10, plain: the certificate is accepted. -/
section
namespace Go.Proofs.Ytengafkfgcdpeaa
set_option linter.unusedVariables false
set_option linter.unusedSimpArgs false
set_option linter.unnecessarySimpa false
set_option linter.unusedSectionVars false
set_option maxRecDepth 10000
open Go.RowKit
/-- Ascending lists with the same elements are equal. -/
theorem asc_ext : ∀ {a b : List Int} {lo hi lo' hi' : Nat}, Asc lo hi a → Asc lo' hi' b → (∀ x, x ∈ a ↔ x ∈ b) → a = b
  | [], [], _, _, _, _, _, _, _ => rfl
  | [], y :: b, _, _, _, _, _, _, h => absurd ((h y).2 (by simp)) (by simp)
  | x :: a, [], _, _, _, _, _, _, h => absurd ((h x).1 (by simp)) (by simp)
  | x :: a, y :: b, lo, hi, lo', hi', ha, hb, h => by
    have pa := List.pairwise_cons.1 ha.1
    have pb := List.pairwise_cons.1 hb.1
    have e : x = y := by
      rcases List.mem_cons.1 ((h x).1 (by simp)) with e | e
      · exact e
      · rcases List.mem_cons.1 ((h y).2 (by simp)) with e' | e'
        · exact e'.symm
        · have h1 := pb.1 x e; have h2 := pa.1 y e'; omega
    subst e
    rw [asc_ext (a := a) (b := b) (lo := lo) (hi := hi) (lo' := lo') (hi' := hi') ⟨pa.2, fun z hz => ha.2 z (by simp [hz])⟩ ⟨pb.2, fun z hz => hb.2 z (by simp [hz])⟩ fun z => ?_]
    constructor
    · intro hz
      rcases List.mem_cons.1 ((h z).1 (by simp [hz])) with e | e
      · have := pa.1 z hz; omega
      · exact e
    · intro hz
      rcases List.mem_cons.1 ((h z).2 (by simp [hz])) with e | e
      · have := pb.1 z hz; omega
      · exact e
/-- The states of the tree's nodes. -/
def stsF (P : Prog) (f : Bool) (b : Int) : Nat → Nat → List Int → List (List Int)
  | 0, o, st => [st]
  | m + 1, o, st => match leafN P f b o st with
    | some _ => [st]
    | none => st :: (stsF P f b m (o + 1) (st.set o 0) ++ stsF P f b m (o + 1) (st.set o 1))
section
variable {P : Prog} {f : Bool} {b : Int}
theorem sts_len : ∀ {m o : Nat} {st : List Int} {base : Nat}, (stsF P f b m o st).length = (treeF P f b m o st base).length
  | 0, o, st, base => rfl
  | m + 1, o, st, base => by
    rw [stsF, treeF]
    cases hlf : leafN P f b o st with
    | some n => rfl
    | none =>
      simp only [List.length_cons, List.length_append]
      rw [sts_len (m := m) (base := base + 1), sts_len (m := m) (st := st.set o 1) (base := base + 1 + (treeF P f b m (o + 1) (st.set o 0) (base + 1)).length)]
theorem sts_leaf {m o : Nat} {st : List Int} {n : Nd} (h : leafN P f b o st = some n) : stsF P f b m o st = [st] := by
  cases m with
  | zero => rfl
  | succ m => simp [stsF, h]
theorem spl_len {α : Type} {L cs : List α} {off : Nat} (h : off + cs.length ≤ L.length) : (spl L off cs).length = L.length := by
  simp [spl]; omega
theorem spl_get {α : Type} {L cs : List α} {off i : Nat} (h : off + cs.length ≤ L.length) : (spl L off cs)[i]? = if i < off then L[i]? else if i < off + cs.length then cs[i - off]? else L[i]? := by
  unfold spl
  by_cases h1 : i < off
  · rw [if_pos h1, List.getElem?_append_left (by simp; omega), List.getElem?_take, if_pos h1]
  · rw [if_neg h1, List.getElem?_append_right (by simp; omega), List.length_take, Nat.min_eq_left (by omega)]
    by_cases h2 : i < off + cs.length
    · rw [if_pos h2, List.getElem?_append_left (by omega)]
    · rw [if_neg h2, List.getElem?_append_right (by omega), List.getElem?_drop]
      congr 1
      omega
theorem spl_one {α : Type} {L : List α} {off : Nat} {x : α} (h : L[off]? = some x) : spl L off [x] = L := by
  have hl := (List.getElem?_eq_some_iff.1 h).1
  refine List.ext_getElem? fun i => ?_
  rw [spl_get (by simp; omega)]
  split
  · rfl
  · split
    · next h1 h2 =>
      simp at h2
      obtain rfl : i = off := by omega
      rw [h, Nat.sub_self]; rfl
    · rfl
theorem leaf_ok {o : Nat} {st : List Int} {n : Nd} (h : leafN P f b o st = some n) : n.kind ≠ 1 ∧ (infB P.rows.length n || bndB P.rows.length n) = true := by
  unfold leafN at h
  split at h
  · next hd =>
    injection h with h
    subst h
    have := (dead_row hd).1
    exact ⟨by show (2 : Int) ≠ 1; omega, by simp [infB, hd, this]⟩
  · split at h
    · injection h with h
      subst h
      exact ⟨by decide, by simp [bndB, plainN]⟩
    · cases h
theorem spl_two {α : Type} {L : List α} {base : Nat} {x y z : α} {us vs : List α} (hx : L[base]? = some x) (h : base + 1 + us.length + vs.length ≤ L.length) (ha : 1 ≤ us.length) :
    spl (spl ((L.set (base + 1) y).set (base + 1 + us.length) z) (base + 1) us) (base + 1 + us.length) vs = (if vs = [] then spl (spl ((L.set (base + 1) y).set (base + 1 + us.length) z) (base + 1) us) (base + 1 + us.length) vs else spl L base (x :: (us ++ vs))) := by
  by_cases hb : vs = []
  · rw [if_pos hb]
  · rw [if_neg hb]
    have hbl : 1 ≤ vs.length := by cases vs with | nil => exact absurd rfl hb | cons => simp
    refine List.ext_getElem? fun i => ?_
    rw [spl_get (by rw [spl_len (by simp; omega)]; simp; omega), spl_get (by simp; omega), spl_get (L := L) (by simp; omega)]
    simp only [List.length_cons, List.length_append, List.getElem?_set, List.length_set]
    by_cases h1 : i < base
    · rw [if_pos (by omega), if_pos (by omega), if_neg (by omega), if_neg (by omega), if_pos h1]
    · by_cases h2 : i = base
      · subst h2
        rw [if_pos (by omega), if_pos (by omega), if_neg (by omega), if_neg (by omega), if_neg (by omega), if_pos (by omega), Nat.sub_self, hx]; rfl
      · by_cases h3 : i < base + 1 + us.length
        · rw [if_pos h3, if_neg (by omega), if_pos h3, if_neg h1, if_pos (by omega), show i - base = (i - (base + 1)) + 1 by omega, List.getElem?_cons_succ, List.getElem?_append_left (by omega)]
        · rw [if_neg h3]
          by_cases h4 : i < base + 1 + us.length + vs.length
          · rw [if_pos h4, if_neg h1, if_pos (by omega), show i - base = (i - (base + 1)) + 1 by omega, List.getElem?_cons_succ, List.getElem?_append_right (by omega)]
            congr 1
            omega
          · rw [if_neg h4, if_neg (by omega), if_neg h3, if_neg (by omega), if_neg (by omega), if_neg h1, if_neg (by omega)]
theorem goS_tree (hv : validB P = true) {N : Nat} : ∀ (m o : Nat) (st : List Int) (base : Nat) (out : List (List Int)) (kn : List Bool) (rest : List Nd), m = P.costs.length - o → o ≤ P.costs.length → st.length = P.costs.length → (∀ j, o ≤ j → j < P.costs.length → nth st j = -1) →
    out.length = N → kn.length = N → base + (treeF P f b m o st base).length ≤ N → kn[base]? = some true → out[base]? = some st → (∀ j, base < j → j < base + (treeF P f b m o st base).length → kn[j]? = some false) →
    goS P.costs.length P.rows.length N base out kn (treeF P f b m o st base ++ rest) = goS P.costs.length P.rows.length N (base + (treeF P f b m o st base).length) (spl out base (stsF P f b m o st)) (spl kn base (List.replicate (treeF P f b m o st base).length true)) rest := by
  intro m
  have leaf : ∀ (m o : Nat) (st : List Int) (base : Nat) (out : List (List Int)) (kn : List Bool) (rest : List Nd) (n : Nd), leafN P f b o st = some n → kn[base]? = some true → out[base]? = some st →
      goS P.costs.length P.rows.length N base out kn (treeF P f b m o st base ++ rest) = goS P.costs.length P.rows.length N (base + (treeF P f b m o st base).length) (spl out base (stsF P f b m o st)) (spl kn base (List.replicate (treeF P f b m o st base).length true)) rest := fun m o st base out kn rest n h hk ho => by
    have hl := leaf_ok h
    rw [tree_leaf h, sts_leaf h, spl_one ho]
    have e := step_leaf (c := P.costs.length) (rows := P.rows.length) (N := N) hk hl.1 (out := out)
    rw [if_pos hl.2] at e
    show goS _ _ _ base out kn (n :: rest) = goS _ _ _ (base + 1) out (spl kn base [true]) rest
    rw [go_some e, spl_one hk]
  induction m with
  | zero =>
    intro o st base out kn rest hm ho hsl hun hol hkl hN hk hout hkf
    obtain ⟨n, hn⟩ : ∃ n, leafN P f b o st = some n := by
      unfold leafN
      split
      · exact ⟨_, rfl⟩
      · rw [if_pos (.inl (by omega))]; exact ⟨_, rfl⟩
    exact leaf 0 o st base out kn rest n hn hk hout
  | succ m ih =>
    intro o st base out kn rest hm ho hsl hun hol hkl hN hk hout hkf
    cases hlf : leafN P f b o st with
    | some n => exact leaf (m + 1) o st base out kn rest n hlf hk hout
    | none =>
      have hto : o < P.costs.length := by omega
      obtain ⟨zt, hzt⟩ : ∃ l, l = treeF P f b m (o + 1) (st.set o 0) (base + 1) := ⟨_, rfl⟩
      obtain ⟨ot, hot⟩ : ∃ l, l = treeF P f b m (o + 1) (st.set o 1) (base + 1 + zt.length) := ⟨_, rfl⟩
      have htree : treeF P f b (m + 1) o st base = ⟨1, o, (base + 1 : Nat), (base + 1 + zt.length : Nat), 0, 0, 0⟩ :: (zt ++ ot) := by rw [treeF, hlf, hot, hzt]
      have hsts : stsF P f b (m + 1) o st = st :: (stsF P f b m (o + 1) (st.set o 0) ++ stsF P f b m (o + 1) (st.set o 1)) := by rw [stsF, hlf]
      have hz1 : 1 ≤ zt.length := by rw [hzt]; exact tree_pos
      have ho1 : 1 ≤ ot.length := by rw [hot]; exact tree_pos
      have hzs : (stsF P f b m (o + 1) (st.set o 0)).length = zt.length := by rw [hzt]; exact sts_len
      have hos : (stsF P f b m (o + 1) (st.set o 1)).length = ot.length := by rw [hot]; exact sts_len
      rw [htree] at hN hkf ⊢
      simp only [List.length_cons, List.length_append] at hN hkf ⊢
      have e := step_br (c := P.costs.length) (rows := P.rows.length) (N := N) (n := ⟨1, o, (base + 1 : Nat), (base + 1 + zt.length : Nat), 0, 0, 0⟩) hk rfl (out := out)
      have k1 := hkf (base + 1) (by omega) (by omega)
      have k2 := hkf (base + 1 + zt.length) (by omega) (by omega)
      rw [if_pos (by
        refine ⟨?_, ?_, ?_, ?_, ?_, ?_, ?_, ?_, ?_, ?_⟩
        · show (base : Int) < ((base + 1 : Nat) : Int); omega
        · show ((base + 1 : Nat) : Int) < N; omega
        · show (base : Int) < ((base + 1 + zt.length : Nat) : Int); omega
        · show ((base + 1 + zt.length : Nat) : Int) < N; omega
        · show ((base + 1 : Nat) : Int) ≠ ((base + 1 + zt.length : Nat) : Int); omega
        · show (0 : Int) ≤ (o : Int); omega
        · show (o : Int) < P.costs.length; omega
        · show kn.getD ((base + 1 : Nat) : Int).toNat false = false; rw [Int.toNat_natCast, getD_some k1]
        · show kn.getD ((base + 1 + zt.length : Nat) : Int).toNat false = false; rw [Int.toNat_natCast, getD_some k2]
        · show nth (out.getD base []) (o : Int).toNat = -1; rw [Int.toNat_natCast, getD_some hout]; exact hun o (Nat.le_refl _) hto)] at e
      simp only [Int.toNat_natCast, getD_some hout] at e
      rw [List.cons_append, go_some e, List.append_assoc]
      have hun' : ∀ x : Int, ∀ j, o + 1 ≤ j → j < P.costs.length → nth (st.set o x) j = -1 := fun x => un_set hun
      have i1 := ih (o + 1) (st.set o 0) (base + 1) ((out.set (base + 1) (st.set o 0)).set (base + 1 + zt.length) (st.set o 1)) ((kn.set (base + 1) true).set (base + 1 + zt.length) true) (ot ++ rest) (by omega) (by omega) (by simp; exact hsl) (hun' 0) (by simp; exact hol) (by simp; exact hkl) (by rw [← hzt]; omega)
        (by rw [List.getElem?_set_ne (by omega), List.getElem?_set_self (by omega)]) (by rw [List.getElem?_set_ne (by omega), List.getElem?_set_self (by omega)]) (fun j h1 h2 => by rw [← hzt] at h2; rw [List.getElem?_set_ne (by omega), List.getElem?_set_ne (by omega)]; exact hkf j (by omega) (by omega))
      rw [← hzt] at i1
      rw [i1]
      have L1 : ((out.set (base + 1) (st.set o 0)).set (base + 1 + zt.length) (st.set o 1)).length = N := by simp; exact hol
      have L2 : ((kn.set (base + 1) true).set (base + 1 + zt.length) true).length = N := by simp; exact hkl
      have i2 := ih (o + 1) (st.set o 1) (base + 1 + zt.length) (spl ((out.set (base + 1) (st.set o 0)).set (base + 1 + zt.length) (st.set o 1)) (base + 1) (stsF P f b m (o + 1) (st.set o 0))) (spl ((kn.set (base + 1) true).set (base + 1 + zt.length) true) (base + 1) (List.replicate zt.length true)) rest (by omega) (by omega) (by simp; exact hsl) (hun' 1)
        (by rw [spl_len (by rw [L1]; omega), L1]) (by rw [spl_len (by rw [L2]; simp; omega), L2]) (by rw [← hot]; omega)
        (by rw [spl_get (by rw [L2]; simp; omega), if_neg (by omega), if_neg (by simp), List.getElem?_set_self (by simp; omega)])
        (by rw [spl_get (by rw [L1]; omega), if_neg (by omega), if_neg (by omega), List.getElem?_set_self (by simp; omega)])
        (fun j h1 h2 => by
          rw [← hot] at h2
          rw [spl_get (by rw [L2]; simp; omega), if_neg (by omega), if_neg (by simp; omega), List.getElem?_set_ne (by omega), List.getElem?_set_ne (by omega)]
          exact hkf j (by omega) (by omega))
      rw [← hot] at i2
      rw [i2]
      have q1 := spl_two (L := out) (base := base) (x := st) (y := st.set o 0) (z := st.set o 1) (us := stsF P f b m (o + 1) (st.set o 0)) (vs := stsF P f b m (o + 1) (st.set o 1)) hout (by omega) (by omega)
      rw [if_neg (fun h => by rw [h] at hos; simp at hos; omega), hzs] at q1
      have q2 := spl_two (L := kn) (base := base) (x := true) (y := true) (z := true) (us := List.replicate zt.length true) (vs := List.replicate ot.length true) hk (by simp; omega) (by simp; omega)
      rw [if_neg (fun h => by have := congrArg List.length h; rw [List.length_replicate, List.length_nil] at this; omega)] at q2
      simp only [List.length_replicate] at q2
      rw [q1, q2, hsts]
      congr 1
      · omega
      · rw [List.replicate_succ, List.replicate_append_replicate]
def NodeP (P : Prog) (f : Bool) (b : Int) (n : Nd) (s : List Int) : Prop := n.kind = 1 ∨ (0 ≤ deadF P s ∧ n = ⟨2, 0, 0, 0, deadF P s, 0, 0⟩) ∨ (deadF P s < 0 ∧ n = plainN ∧ stOB s P.costs.length = true ∧ ((∀ x ∈ s, x ≠ -1) ∨ (f = true ∧ b ≤ boundF P s plainN)))
theorem leaf_P {o : Nat} {st : List Int} {n : Nd} (hst : stOB st P.costs.length = true) (hdec : ∀ j, j < o → nth st j ≠ -1) (h : leafN P f b o st = some n) : NodeP P f b n st := by
  unfold leafN at h
  split at h
  · next hd =>
    injection h with h
    exact .inr (.inl ⟨hd, h.symm⟩)
  · next hd =>
    split at h
    · next hor =>
      injection h with h
      refine .inr (.inr ⟨by omega, h.symm, hst, ?_⟩)
      rcases hor with ho | ho
      · left
        intro x hx
        obtain ⟨i, hi, e⟩ := mem_nth hx
        rw [← e]
        exact hdec i (by omega)
      · exact .inr ho
    · cases h
theorem tree_nodes : ∀ (m o : Nat) (st : List Int) (base : Nat), m = P.costs.length - o → o ≤ P.costs.length → stOB st P.costs.length = true → (∀ j, j < o → nth st j ≠ -1) → ∀ (j : Nat) s n, (stsF P f b m o st)[j]? = some s → (treeF P f b m o st base)[j]? = some n → NodeP P f b n s := by
  intro m
  have leaf : ∀ (m o : Nat) (st : List Int) (base : Nat) (n : Nd), stOB st P.costs.length = true → (∀ j, j < o → nth st j ≠ -1) → leafN P f b o st = some n → ∀ (j : Nat) s n', (stsF P f b m o st)[j]? = some s → (treeF P f b m o st base)[j]? = some n' → NodeP P f b n' s := fun m o st base n hst hdec h j s n' h1 h2 => by
    rw [sts_leaf h] at h1
    rw [tree_leaf h] at h2
    cases j with
    | zero =>
      simp at h1 h2
      subst h1 h2
      exact leaf_P hst hdec h
    | succ j => simp at h1
  induction m with
  | zero =>
    intro o st base hm ho hst hdec
    have hsl := st_len hst
    obtain ⟨n, hn⟩ : ∃ n, leafN P f b o st = some n := by
      unfold leafN
      split
      · exact ⟨_, rfl⟩
      · rw [if_pos (.inl (by omega))]; exact ⟨_, rfl⟩
    exact leaf 0 o st base n hst hdec hn
  | succ m ih =>
    intro o st base hm ho hst hdec
    cases hlf : leafN P f b o st with
    | some n => exact leaf (m + 1) o st base n hst hdec hlf
    | none =>
      have hsl := st_len hst
      have hd' : ∀ x : Int, x ≠ -1 → ∀ j, j < o + 1 → nth (st.set o x) j ≠ -1 := fun x hx j hj => by
        rw [nth_set]
        split
        · exact hx
        · exact hdec j (by omega)
      intro j s n h1 h2
      rw [stsF, hlf] at h1
      rw [treeF, hlf] at h2
      simp only at h1 h2
      cases j with
      | zero =>
        simp at h2
        subst h2
        exact .inl rfl
      | succ j =>
        rw [List.getElem?_cons_succ] at h1 h2
        have hzs : (stsF P f b m (o + 1) (st.set o 0)).length = (treeF P f b m (o + 1) (st.set o 0) (base + 1)).length := sts_len
        rcases Nat.lt_or_ge j (stsF P f b m (o + 1) (st.set o 0)).length with hj | hj
        · rw [List.getElem?_append_left hj] at h1
          rw [List.getElem?_append_left (by omega)] at h2
          exact ih (o + 1) (st.set o 0) (base + 1) (by omega) (by omega) (stO_set hst (by omega)) (hd' 0 (by omega)) j s n h1 h2
        · rw [List.getElem?_append_right hj, hzs] at h1
          rw [List.getElem?_append_right (by omega)] at h2
          exact ih (o + 1) (st.set o 1) _ (by omega) (by omega) (stO_set hst (by omega)) (hd' 1 (by omega)) _ s n h1 h2
theorem cert_len (hv : validB P = true) : (certF P f b).length ≤ 8191 := by
  have h1 : (certF P f b).length ≤ 2 ^ (P.costs.length + 1) - 1 := tree_len
  have h2 : 2 ^ (P.costs.length + 1) ≤ 2 ^ 13 := Nat.pow_le_pow_right (by omega) (by have := (validB_parts hv).1; omega)
  omega
theorem root_st : stOB (List.replicate P.costs.length (-1)) P.costs.length = true := by simp [stOB, tri9]
theorem cert_states (hv : validB P = true) : statesF P (certF P f b) = (some (stsF P f b P.costs.length 0 (List.replicate P.costs.length (-1))), 0) := by
  have h8 := cert_len (f := f) (b := b) hv
  have h0 : 1 ≤ (certF P f b).length := tree_pos
  have hz : (stsF P f b P.costs.length 0 (List.replicate P.costs.length (-1))).length = (certF P f b).length := sts_len
  have key := goS_tree (f := f) (b := b) hv (N := (certF P f b).length) P.costs.length 0 (List.replicate P.costs.length (-1)) 0 ((List.replicate (certF P f b).length []).set 0 (List.replicate P.costs.length (-1))) ((List.replicate (certF P f b).length false).set 0 true) [] (by omega) (by omega) (by simp) (fun j _ h => by simp [nth, List.getD_eq_getElem?_getD, h]) (by simp) (by simp) (by show 0 + (certF P f b).length ≤ _; omega)
    (by rw [List.getElem?_set_self (by simp; omega)]) (by rw [List.getElem?_set_self (by simp; omega)]) (fun j h1 h2 => by
      have h2' : j < 0 + (certF P f b).length := h2
      rw [List.getElem?_set_ne (by omega), List.getElem?_replicate, if_pos (by omega)])
  rw [List.append_nil] at key
  have key' : goS P.costs.length P.rows.length (certF P f b).length 0 ((List.replicate (certF P f b).length []).set 0 (List.replicate P.costs.length (-1))) ((List.replicate (certF P f b).length false).set 0 true) (certF P f b) = some (stsF P f b P.costs.length 0 (List.replicate P.costs.length (-1))) := by
    refine key.trans ?_
    rw [goS]
    congr 1
    rw [spl, List.take_zero, List.nil_append, List.drop_of_length_le (by simp; omega), List.append_nil]
  rw [statesF, if_neg (by rw [hv]; decide), if_neg (by omega), if_neg (by omega), key']
/-- The certificate of the cheapest choice is accepted. -/
theorem cert_check (hv : validB P = true) : checkF P ⟨(bestF P).1, (bestF P).2.2, (bestF P).2.1, certF P (bestF P).1 (bestF P).2.1⟩ = 0 := by
  have hb := best_is P
  obtain ⟨f, hf⟩ : ∃ f, f = (bestF P).1 := ⟨_, rfl⟩
  obtain ⟨b, hbb⟩ : ∃ b, b = (bestF P).2.1 := ⟨_, rfl⟩
  have hn := tree_nodes (P := P) (f := f) (b := b) P.costs.length 0 (List.replicate P.costs.length (-1)) 0 (by omega) (by omega) root_st (fun j h => by omega)
  have hp : provedF P (certF P f b) = goP P (stsF P f b P.costs.length 0 (List.replicate P.costs.length (-1))) (certF P f b) 0 false := by rw [provedF, cert_states hv]
  have h0 : (goP P (stsF P f b P.costs.length 0 (List.replicate P.costs.length (-1))) (certF P f b) 0 false).2.2 = 0 := goP_ok _ _ _ _ fun j s n h1 h2 h3 => by
    rcases hn j s n h1 h2 with h | ⟨h, rfl⟩ | ⟨_, rfl, _⟩
    · omega
    · exact (dead_row h).2
    · simp [plainN] at h3
  obtain ⟨v, hv1⟩ : ∃ v, v = (goP P (stsF P f b P.costs.length 0 (List.replicate P.costs.length (-1))) (certF P f b) 0 false).1 := ⟨_, rfl⟩
  obtain ⟨sm, hsm⟩ : ∃ v, v = (goP P (stsF P f b P.costs.length 0 (List.replicate P.costs.length (-1))) (certF P f b) 0 false).2.1 := ⟨_, rfl⟩
  have hgo : goP P (stsF P f b P.costs.length 0 (List.replicate P.costs.length (-1))) (certF P f b) 0 false = (v, sm, 0) := Prod.ext hv1.symm (Prod.ext hsm.symm h0)
  rw [hgo] at hp
  -- a leaf with a bound: its bound is at least the best cost, and there is a choice
  have hat : sm = true → f = true ∧ b ≤ v := fun e => by
    rw [e] at hgo
    rcases goP_at _ _ _ _ _ hgo with ⟨h, _⟩ | ⟨j, s, n, h1, h2, h3, h4⟩
    · cases h
    · rcases hn j s n h1 h2 with h | ⟨_, rfl⟩ | ⟨hd, rfl, hst, hor⟩
      · omega
      · simp at h3
      · rcases hor with hdec | ⟨h5, h6⟩
        · have hsl := st_len hst
          have htri := tri_all hst
          obtain ⟨t, ht, hbit⟩ := exists_bits (fun i => decide (nth s i = 1)) P.costs.length
          have hc : Compl s t := fun i hi => by
            rw [hbit i (by omega)]
            exact ⟨fun h => by simp [h], fun h => by simp [h]⟩
          have hfree : hasB s (-1) = false := by
            cases hh : hasB s (-1) with
            | false => rfl
            | true => exact absurd rfl (hdec _ (hasB_iff.1 hh))
          have hm := (decided_iff hsl htri hv (by rw [← stO_state (validB_parts hv).1]; exact hst) hfree hc).1 hd
          have hl := least_ok hv (sub_Asc t P.costs.length) hm
          have hbd := bound_decided hsl htri hdec hc
          have hcst : costF P (subTo t P.costs.length) = bitSum P.costs t P.costs.length := by
            rw [costF, if_pos (by simp only [costOk, hv, sub_choice, Bool.and_self]), sumOf_sub]
          refine ⟨hf.trans hl.1, ?_⟩
          rw [h4, show boundF P s plainN = bitSum P.costs t P.costs.length from hbd, ← hcst, hbb]
          exact hl.2.1
        · exact ⟨h5, by rw [h4]; exact h6⟩
  rw [← hf, ← hbb]
  cases hff : f with
  | false =>
    rw [hff] at hf hp hat
    have hnone := hb.none hf.symm
    have hsf : sm = false := by
      cases sm with
      | false => rfl
      | true => have := (hat rfl).1; cases this
    rw [hsf] at hp
    have hb0 : b = 0 := by rw [hbb, hnone.2]
    have hc0 : (bestF P).2.2 = [] := by rw [hnone.2]
    simp [checkF, hv, hp, hb0, hc0]
    rw [hb0] at hp
    simp [hp]
  | true =>
    rw [hff] at hf hp hat
    have hbm := best_meets hv hf.symm
    have hps := fun t hm => proved_sound hp (t := t) hm
    have hsm1 : sm = true := by
      obtain ⟨t, ht, hbit⟩ := exists_bits (fun i => hasB (bestF P).2.2 (i : Int)) P.costs.length
      have hsub : subTo t P.costs.length = (bestF P).2.2 := asc_ext (sub_Asc t P.costs.length) hbm.2.2 fun x => by
        rw [mem_sub]
        constructor
        · rintro ⟨i, h1, rfl, h3⟩
          rw [hbit i h1] at h3
          exact hasB_iff.1 h3
        · intro hx
          have hxr := hbm.2.2.2 x hx
          refine ⟨x.toNat, by omega, by omega, ?_⟩
          rw [hbit x.toNat (by omega)]
          exact hasB_iff.2 (by rw [show ((x.toNat : Nat) : Int) = x by omega]; exact hx)
      exact (hps t (by rw [hsub]; exact hbm.1)).1
    have hbv := (hat hsm1).2
    rw [hsm1] at hp
    simp only [checkF, hv, hp, hbm.1, hbm.2.1, ← hbb]
    simp
    omega
end
end Go.Proofs.Ytengafkfgcdpeaa
end

/- Layer 10: the law AssemblySolves. -/
section
namespace Go.Proofs.Ytengafkfgcdpeaa
set_option linter.unusedVariables false
set_option linter.unusedSimpArgs false
set_option linter.unnecessarySimpa false
set_option linter.unusedSectionVars false
set_option maxRecDepth 10000
open Go.RowKit
def plGL10k_0 : Plan := (.take 0 (.take 1 (.take 2 (.take 3 (.take 4 (.alt 5 (.take 6 (.take 7 (.take 8 (.take 9 (.take 10 .done))))) .stop))))))
def plGL10k_1 : Plan := (.take 0 (.take 1 (.take 2 (.take 3 (.alt 4 (.alt 5 (.take 6 (.take 7 (.take 8 (.take 9 (.take 10 .done))))) .stop) .stop)))))
def plGL10k_2 : Plan := (.take 1 (.take 2 (.take 3 (.alt 0 (.alt 4 (.alt 5 (.take 6 (.take 7 (.take 8 (.take 9 (.take 10 .done))))) .stop) .stop) (.alt 4 (.alt 0 (.alt 5 (.take 6 (.take 7 (.take 8 (.take 9 (.take 10 .done))))) .stop) .stop) .stop)))))
def bestSl (σ : Bool × Int × List Int) : AV := bif σ.1 then ints σ.2.2 else .nil
set_option maxHeartbeats 4000000 in
theorem rBest_ok (P : Prog) (hv : validB P = true) : Good Try.prog TT false 85 [progV P] (· = .tup [ints (bestF P).2.2, .int .i64 (bestF P).2.1, .bool (bestF P).1]) := by
  have hfit := fits_of hv
  have hall : allV P = .tup [.lst 1 ((allF P).map encS), .int .i64 0] := if_pos hv
  have LA : ((allF P).map encS).length = (allF P).length := List.length_map ..
  have hcnt := all_count hv
  refine good_of mixed tabOk Try.func85 rfl rfl Try.ntmps85 Try.results85 rfl rfl ?_
  (conv => whnf); (repeat' (first | (refine arith_i ⟨by omega, by omega⟩ ?_; conv => whnf) | (refine arith_u ⟨by omega, by omega⟩ ?_; conv => whnf) | (refine arith_8 ⟨by omega, by omega⟩ ?_; conv => whnf) | (refine need_i (by first | omega | (simp only [List.length_cons, List.length_nil]; omega) | (simp only [List.length_append, List.length_cons, List.length_nil, List.length_map, List.length_replicate, List.length_modify]; omega)) ?_; conv => whnf) | ((with_reducible refine branch_tt ?_); conv => whnf) | ((with_reducible refine branch_ff ?_); conv => whnf) | (with_reducible refine branch_not ?_) | ((refine call_e ((rAll_ok P hfit).mono fun r h => h.trans hall) ?_); conv => whnf) | ((with_reducible refine slc_e ?_); conv => whnf) | ((with_reducible refine callS_a ?_); conv => whnf) | ((with_reducible refine bld_a ?_); conv => whnf) | ((with_reducible refine own_e ?_); conv => whnf) | ((with_reducible refine mkmap_b ?_); conv => whnf) | (refine draw_i 11 plGL10k_0 (by decide +kernel) ?_; (conv => whnf); fail_if_success (guard_target =~ False)) | (refine draw_i 11 plGL10k_1 (by decide +kernel) ?_; (conv => whnf); fail_if_success (guard_target =~ False)) | (refine draw_i 11 plGL10k_2 (by decide +kernel) ?_; (conv => whnf); fail_if_success (guard_target =~ False)) | ((with_reducible refine And.intro ?_ ?_) <;> (conv => whnf)) | (with_reducible exact trivial) | ((with_reducible refine branch_d (fun hq => ?_) (fun hq => ?_)) <;> (try (exfalso; omega)) <;> (conv => whnf)) | ((with_reducible refine branch_e (fun hq => ?_) (fun hq => ?_)) <;> (try (exfalso; omega)) <;> (conv => whnf)) | ((with_reducible refine branch_n (fun hq => ?_) (fun hq => ?_)) <;> (try (exfalso; omega)) <;> (conv => whnf)) | ((with_reducible refine branch_i (fun hq => ?_) (fun hq => ?_)) <;> (try (exfalso; omega)) <;> (conv => whnf))))
  refine loop_i2 (fun (k : Nat) (σ : Bool × Int × List Int) => k ≤ (allF P).length ∧ ((allF P).drop k).foldl (bestS P) σ = bestF P) (fun k σ => mkSt [(1, .ptr 1 0), (5, .lst 1 ((allF P).map encS)), (7, bestSl σ), (8, .int .i64 σ.2.1), (9, .bool σ.1), (10, .int .i64 k)] [(1, [ints P.costs, rowsV P.rows])] false) (fun k _ => (allF P).length - k) 0 (false, 0, []) ⟨Nat.zero_le _, rfl⟩ (le_mk (by repeat' (first | exact trivial | rfl | apply And.intro)) (by repeat' (first | exact trivial | rfl | apply And.intro)) rfl) ?_
  rintro k ⟨fd, cst, chs⟩ ⟨hk, hfold⟩
  cases fd
  all_goals
    (conv => whnf); (repeat' (first | (refine arith_i ⟨by omega, by omega⟩ ?_; conv => whnf) | (refine arith_u ⟨by omega, by omega⟩ ?_; conv => whnf) | (refine arith_8 ⟨by omega, by omega⟩ ?_; conv => whnf) | (refine need_i (by first | omega | (simp only [List.length_cons, List.length_nil]; omega) | (simp only [List.length_append, List.length_cons, List.length_nil, List.length_map, List.length_replicate, List.length_modify]; omega)) ?_; conv => whnf) | ((with_reducible refine branch_tt ?_); conv => whnf) | ((with_reducible refine branch_ff ?_); conv => whnf) | (with_reducible refine branch_not ?_) | ((refine idx_cs (by assumption) ?_); conv => whnf) | (((refine idx_c (xs := allF P) (by omega) fun c hc => ?_; have hcm := all_meets hv (List.mem_of_getElem? hc); have hcl := asc_len hcm.2.2; have hcl2 := (validB_parts hv).1; rw [drop_at hc, List.foldl_cons] at hfold)); conv => whnf) | ((refine call_e (rCost_ok P c hfit (by omega)) ?_); conv => whnf) | ((with_reducible refine slc_e ?_); conv => whnf) | ((with_reducible refine callS_a ?_); conv => whnf) | ((with_reducible refine bld_a ?_); conv => whnf) | ((with_reducible refine own_e ?_); conv => whnf) | ((with_reducible refine mkmap_b ?_); conv => whnf) | (refine draw_i 11 plGL10k_0 (by decide +kernel) ?_; (conv => whnf); fail_if_success (guard_target =~ False)) | (refine draw_i 11 plGL10k_1 (by decide +kernel) ?_; (conv => whnf); fail_if_success (guard_target =~ False)) | (refine draw_i 11 plGL10k_2 (by decide +kernel) ?_; (conv => whnf); fail_if_success (guard_target =~ False)) | ((with_reducible refine And.intro ?_ ?_) <;> (conv => whnf)) | (with_reducible exact trivial) | ((with_reducible refine branch_d (fun hq => ?_) (fun hq => ?_)) <;> (try (exfalso; omega)) <;> (conv => whnf)) | ((with_reducible refine branch_e (fun hq => ?_) (fun hq => ?_)) <;> (try (exfalso; omega)) <;> (conv => whnf)) | ((with_reducible refine branch_n (fun hq => ?_) (fun hq => ?_)) <;> (try (exfalso; omega)) <;> (conv => whnf)) | ((with_reducible refine branch_i (fun hq => ?_) (fun hq => ?_)) <;> (try (exfalso; omega)) <;> (conv => whnf))))
    all_goals first
      | (rw [drop_end (by omega)] at hfold
         have hf2 : bestF P = (false, cst, chs) := hfold.symm
         have h0 := (best_is P).none (by rw [hf2])
         rw [h0.2]
         rw [h0.2] at hf2
         injection hf2 with e1 e2
         injection e2 with e2 e3
         subst e2 e3
         exact ret_t (rs := [ints [], .int .i64 0, .bool false]) ⟨.inl rc_n, (rc_p rfl).g, (rc_p rfl).g, trivial⟩ rfl)
      | (rw [drop_end (by omega)] at hfold
         have hf2 : bestF P = (true, cst, chs) := hfold.symm
         rw [hf2]
         exact ret_t (rs := [ints chs, .int .i64 cst, .bool true]) ⟨(rc_p rfl).g, (rc_p rfl).g, (rc_p rfl).g, trivial⟩ rfl)
      | (have e : bestS P (false, cst, chs) c = (true, costF P c, c) := by rw [bestS, if_pos (.inl rfl), hcm.2.1]
         rw [e] at hfold
         exact ⟨k + 1, (true, costF P c, c), ⟨by omega, hfold⟩, (le_mk (by repeat' (first | exact trivial | rfl | apply And.intro)) (by repeat' (first | exact trivial | rfl | apply And.intro)) rfl), by omega⟩)
      | (have e : bestS P (true, cst, chs) c = (true, costF P c, c) := by rw [bestS, if_pos (.inr (by rw [← hcm.2.1]; assumption)), hcm.2.1]
         rw [e] at hfold
         exact ⟨k + 1, (true, costF P c, c), ⟨by omega, hfold⟩, (le_mk (by repeat' (first | exact trivial | rfl | apply And.intro)) (by repeat' (first | exact trivial | rfl | apply And.intro)) rfl), by omega⟩)
      | (have e : bestS P (true, cst, chs) c = (true, cst, chs) := by
           rw [bestS, if_neg]
           rintro (h | h)
           · cases h
           · rw [← hcm.2.1] at h; exact absurd h (by assumption)
         rw [e] at hfold
         exact ⟨k + 1, (true, cst, chs), ⟨by omega, hfold⟩, (le_mk (by repeat' (first | exact trivial | rfl | apply And.intro)) (by repeat' (first | exact trivial | rfl | apply And.intro)) rfl), by omega⟩)
theorem rPlan_ok (P : Prog) (hv : validB P = true) : Good Try.prog TT false 66 [progV P] (· = planV ⟨(bestF P).1, (bestF P).2.2, (bestF P).2.1, []⟩) := by
  refine good_of mixed tabOk Try.func66 rfl rfl Try.ntmps66 Try.results66 rfl rfl ?_
  (conv => whnf); (repeat' (first | (refine arith_i ⟨by omega, by omega⟩ ?_; conv => whnf) | (refine arith_u ⟨by omega, by omega⟩ ?_; conv => whnf) | (refine arith_8 ⟨by omega, by omega⟩ ?_; conv => whnf) | (refine need_i (by first | omega | (simp only [List.length_cons, List.length_nil]; omega) | (simp only [List.length_append, List.length_cons, List.length_nil, List.length_map, List.length_replicate, List.length_modify]; omega)) ?_; conv => whnf) | ((with_reducible refine branch_tt ?_); conv => whnf) | ((with_reducible refine branch_ff ?_); conv => whnf) | (with_reducible refine branch_not ?_) | ((refine call_e (rBest_ok P hv) ?_); conv => whnf) | ((with_reducible refine slc_e ?_); conv => whnf) | ((with_reducible refine callS_a ?_); conv => whnf) | ((with_reducible refine bld_a ?_); conv => whnf) | ((with_reducible refine own_e ?_); conv => whnf) | ((with_reducible refine mkmap_b ?_); conv => whnf) | ((with_reducible refine branch_d (fun hq => ?_) (fun hq => ?_)) <;> (try (exfalso; omega)) <;> (conv => whnf)) | ((with_reducible refine branch_e (fun hq => ?_) (fun hq => ?_)) <;> (try (exfalso; omega)) <;> (conv => whnf)) | ((with_reducible refine branch_n (fun hq => ?_) (fun hq => ?_)) <;> (try (exfalso; omega)) <;> (conv => whnf)) | ((with_reducible refine branch_i (fun hq => ?_) (fun hq => ?_)) <;> (try (exfalso; omega)) <;> (conv => whnf))))
  exact ret_a (cs' := [.bool (bestF P).1, ints (bestF P).2.2, .int .i64 (bestF P).2.1, ndsV []]) ⟨rc_p rfl, rc_p rfl, rc_p rfl, rc_n, trivial⟩ rfl
end Go.Proofs.Ytengafkfgcdpeaa
end

/- Layer 11: Restrict, of the program and of the reference. -/
section
namespace Go.Proofs.Ytengafkfgcdpeaa
set_option linter.unusedVariables false
set_option linter.unusedSimpArgs false
set_option linter.unnecessarySimpa false
set_option linter.unusedSectionVars false
set_option maxRecDepth 10000
open Go.RowKit
set_option maxHeartbeats 2000000 in
theorem pChoice_any (ch : List Int) (n : Nat) (hl : ch.length ≤ 9223372036854775807) (hn : n ≤ 1000000) : Good Try.prog TT false 43 [ints ch, .int .i64 n] (· = .bool (choiceB ch n)) := by
  have L : (ch.map encI).length = ch.length := List.length_map ..
  refine good_of mixed tabOk Try.func43 rfl rfl Try.ntmps43 Try.results43 rfl rfl ?_
  (conv => whnf); (repeat' (first | (refine arith_i ⟨by omega, by omega⟩ ?_; conv => whnf) | (refine arith_u ⟨by omega, by omega⟩ ?_; conv => whnf) | (refine arith_8 ⟨by omega, by omega⟩ ?_; conv => whnf) | (refine need_i (by first | omega | (simp only [List.length_cons, List.length_nil]; omega) | (simp only [List.length_append, List.length_cons, List.length_nil, List.length_map, List.length_replicate, List.length_modify]; omega)) ?_; conv => whnf) | ((with_reducible refine branch_tt ?_); conv => whnf) | ((with_reducible refine branch_ff ?_); conv => whnf) | (with_reducible refine branch_not ?_) | ((with_reducible refine slc_e ?_); conv => whnf) | ((with_reducible refine callS_a ?_); conv => whnf) | ((with_reducible refine bld_a ?_); conv => whnf) | ((with_reducible refine own_e ?_); conv => whnf) | ((with_reducible refine mkmap_b ?_); conv => whnf) | ((with_reducible refine branch_d (fun hq => ?_) (fun hq => ?_)) <;> (try (exfalso; omega)) <;> (conv => whnf)) | ((with_reducible refine branch_e (fun hq => ?_) (fun hq => ?_)) <;> (try (exfalso; omega)) <;> (conv => whnf)) | ((with_reducible refine branch_n (fun hq => ?_) (fun hq => ?_)) <;> (try (exfalso; omega)) <;> (conv => whnf)) | ((with_reducible refine branch_i (fun hq => ?_) (fun hq => ?_)) <;> (try (exfalso; omega)) <;> (conv => whnf))))
  refine loop_i (fun k : Nat => k ≤ ch.length ∧ ChTo ch n k) (fun k => mkSt [(0, ints ch), (1, .int .i64 n), (7, ints ch), (8, .int .i64 (ch.map encI).length), (9, .int .i64 k)] [] false) (fun k => ch.length - k) 0 ⟨Nat.zero_le _, ChTo.zero⟩ (le_mk (by repeat' (first | exact trivial | rfl | apply And.intro)) (by repeat' (first | exact trivial | rfl | apply And.intro)) rfl) ?_
  rintro k ⟨hk, hall⟩
  (conv => whnf); (repeat' (first | (refine arith_i ⟨by omega, by omega⟩ ?_; conv => whnf) | (refine arith_u ⟨by omega, by omega⟩ ?_; conv => whnf) | (refine arith_8 ⟨by omega, by omega⟩ ?_; conv => whnf) | (refine need_i (by first | omega | (simp only [List.length_cons, List.length_nil]; omega) | (simp only [List.length_append, List.length_cons, List.length_nil, List.length_map, List.length_replicate, List.length_modify]; omega)) ?_; conv => whnf) | ((with_reducible refine branch_tt ?_); conv => whnf) | ((with_reducible refine branch_ff ?_); conv => whnf) | (with_reducible refine branch_not ?_) | ((first | refine idx_cs (by assumption) ?_ | (refine idx_c (by omega) fun y hy => ?_; have hn := nth_eq hy) | (refine idx_m (by omega) (by omega) fun z hz => ?_; rw [show ((k : Int) - 1).toNat = k - 1 by omega] at hz; have hnz := nth_eq hz)); conv => whnf) | ((with_reducible refine slc_e ?_); conv => whnf) | ((with_reducible refine callS_a ?_); conv => whnf) | ((with_reducible refine bld_a ?_); conv => whnf) | ((with_reducible refine own_e ?_); conv => whnf) | ((with_reducible refine mkmap_b ?_); conv => whnf) | ((with_reducible refine branch_d (fun hq => ?_) (fun hq => ?_)) <;> (try (exfalso; omega)) <;> (conv => whnf)) | ((with_reducible refine branch_e (fun hq => ?_) (fun hq => ?_)) <;> (try (exfalso; omega)) <;> (conv => whnf)) | ((with_reducible refine branch_n (fun hq => ?_) (fun hq => ?_)) <;> (try (exfalso; omega)) <;> (conv => whnf)) | ((with_reducible refine branch_i (fun hq => ?_) (fun hq => ?_)) <;> (try (exfalso; omega)) <;> (conv => whnf))))
  all_goals first
    | exact ret_p rfl (bool_eq (ch_fail (k := k) (by omega) (by simp [choiceAt]; omega)).symm)
    | exact ⟨k + 1, ⟨by omega, hall.step (by simp [choiceAt]; omega)⟩, (le_mk (by repeat' (first | exact trivial | rfl | apply And.intro)) (by repeat' (first | exact trivial | rfl | apply And.intro)) rfl), by omega⟩
    | exact ret_p rfl (bool_eq (hall.full (by omega)).symm)
def idxI (l : List Int) (r : Int) : Int := match l.findIdx? (· == r) with | some i => i | none => -1
theorem indexI_ok (l : List Int) (r : Int) (hl : l.length ≤ 1000000) : Good Try.prog TT false 70 [ints l, .int .i64 r] (· = .int .i64 (idxI l r)) := by
  have L : (l.map encI).length = l.length := List.length_map ..
  refine good_of mixed tabOk Try.func70 rfl rfl Try.ntmps70 Try.results70 rfl rfl ?_
  (conv => whnf); (repeat (first | (refine arith_i ⟨by omega, by omega⟩ ?_; conv => whnf) | (refine need_i (by first | omega | (simp only [List.length_append, List.length_cons, List.length_nil]; omega)) ?_; conv => whnf) | ((with_reducible refine branch_tt ?_); conv => whnf) | ((with_reducible refine branch_ff ?_); conv => whnf) | (with_reducible refine branch_not ?_) | ((with_reducible refine slc_e ?_); conv => whnf) | ((with_reducible refine callS_a ?_); conv => whnf) | ((with_reducible refine bld_a ?_); conv => whnf) | ((with_reducible refine own_e ?_); conv => whnf) | ((with_reducible refine mkmap_b ?_); conv => whnf)))
  refine loop_i (fun k : Nat => k ≤ l.length ∧ ∀ i x, i < k → l[i]? = some x → (x == r) = false) (fun k => mkSt [(0, ints l), (1, .int .i64 r), (7, .int .i64 (l.map encI).length), (8, .int .i64 k)] [] false) (fun k => l.length - k) 0 ⟨Nat.zero_le _, nofun⟩ (le_mk (by repeat' (first | exact trivial | rfl | apply And.intro)) (by repeat' (first | exact trivial | rfl | apply And.intro)) rfl) ?_
  rintro k ⟨hk, hall⟩
  (conv => whnf); (repeat (first | (refine arith_i ⟨by omega, by omega⟩ ?_; conv => whnf) | (refine need_i (by first | omega | (simp only [List.length_append, List.length_cons, List.length_nil]; omega)) ?_; conv => whnf) | ((with_reducible refine branch_tt ?_); conv => whnf) | ((with_reducible refine branch_ff ?_); conv => whnf) | (with_reducible refine branch_not ?_) | ((with_reducible refine slc_e ?_); conv => whnf) | ((with_reducible refine callS_a ?_); conv => whnf) | ((with_reducible refine bld_a ?_); conv => whnf) | ((with_reducible refine own_e ?_); conv => whnf) | ((with_reducible refine mkmap_b ?_); conv => whnf)))
  refine branch_d (fun h => ?_) (fun h => ?_)
  · (conv => whnf); (repeat (first | (refine arith_i ⟨by omega, by omega⟩ ?_; conv => whnf) | (refine need_i (by first | omega | (simp only [List.length_append, List.length_cons, List.length_nil]; omega)) ?_; conv => whnf) | ((with_reducible refine branch_tt ?_); conv => whnf) | ((with_reducible refine branch_ff ?_); conv => whnf) | (with_reducible refine branch_not ?_) | ((with_reducible refine slc_e ?_); conv => whnf) | ((with_reducible refine callS_a ?_); conv => whnf) | ((with_reducible refine bld_a ?_); conv => whnf) | ((with_reducible refine own_e ?_); conv => whnf) | ((with_reducible refine mkmap_b ?_); conv => whnf)))
    refine idx_m (by omega) (by omega) fun x hx => ?_
    rw [Int.toNat_natCast] at hx
    (conv => whnf); (repeat (first | (refine arith_i ⟨by omega, by omega⟩ ?_; conv => whnf) | (refine need_i (by first | omega | (simp only [List.length_append, List.length_cons, List.length_nil]; omega)) ?_; conv => whnf) | ((with_reducible refine branch_tt ?_); conv => whnf) | ((with_reducible refine branch_ff ?_); conv => whnf) | (with_reducible refine branch_not ?_) | ((with_reducible refine slc_e ?_); conv => whnf) | ((with_reducible refine callS_a ?_); conv => whnf) | ((with_reducible refine bld_a ?_); conv => whnf) | ((with_reducible refine own_e ?_); conv => whnf) | ((with_reducible refine mkmap_b ?_); conv => whnf)))
    refine branch_e (fun he => ?_) (fun he => ?_)
    · (conv => whnf); (repeat (first | (refine arith_i ⟨by omega, by omega⟩ ?_; conv => whnf) | (refine need_i (by first | omega | (simp only [List.length_append, List.length_cons, List.length_nil]; omega)) ?_; conv => whnf) | ((with_reducible refine branch_tt ?_); conv => whnf) | ((with_reducible refine branch_ff ?_); conv => whnf) | (with_reducible refine branch_not ?_) | ((with_reducible refine slc_e ?_); conv => whnf) | ((with_reducible refine callS_a ?_); conv => whnf) | ((with_reducible refine bld_a ?_); conv => whnf) | ((with_reducible refine own_e ?_); conv => whnf) | ((with_reducible refine mkmap_b ?_); conv => whnf)))
      refine ret_p rfl (int_eq ?_)
      have : l.findIdx? (· == r) = some k := by
        rw [List.findIdx?_eq_some_iff_getElem]
        obtain ⟨h1, h2⟩ := List.getElem?_eq_some_iff.1 hx
        exact ⟨h1, by rw [h2]; simp [he], fun j hj => by rw [hall j _ hj (List.getElem?_eq_getElem (by omega))]; simp⟩
      rw [idxI, this]
    · (conv => whnf); (repeat (first | (refine arith_i ⟨by omega, by omega⟩ ?_; conv => whnf) | (refine need_i (by first | omega | (simp only [List.length_append, List.length_cons, List.length_nil]; omega)) ?_; conv => whnf) | ((with_reducible refine branch_tt ?_); conv => whnf) | ((with_reducible refine branch_ff ?_); conv => whnf) | (with_reducible refine branch_not ?_) | ((with_reducible refine slc_e ?_); conv => whnf) | ((with_reducible refine callS_a ?_); conv => whnf) | ((with_reducible refine bld_a ?_); conv => whnf) | ((with_reducible refine own_e ?_); conv => whnf) | ((with_reducible refine mkmap_b ?_); conv => whnf)))
      refine ⟨k + 1, ⟨by omega, fun i y hi hy => ?_⟩, (le_mk (by repeat' (first | exact trivial | rfl | apply And.intro)) (by repeat' (first | exact trivial | rfl | apply And.intro)) rfl), by omega⟩
      rcases Nat.lt_or_ge i k with h' | h'
      · exact hall i y h' hy
      · obtain rfl : i = k := by omega
        rw [hx] at hy; injection hy with hy; subst hy; simp; exact fun e => he e.symm
  · (conv => whnf); (repeat (first | (refine arith_i ⟨by omega, by omega⟩ ?_; conv => whnf) | (refine need_i (by first | omega | (simp only [List.length_append, List.length_cons, List.length_nil]; omega)) ?_; conv => whnf) | ((with_reducible refine branch_tt ?_); conv => whnf) | ((with_reducible refine branch_ff ?_); conv => whnf) | (with_reducible refine branch_not ?_) | ((with_reducible refine slc_e ?_); conv => whnf) | ((with_reducible refine callS_a ?_); conv => whnf) | ((with_reducible refine bld_a ?_); conv => whnf) | ((with_reducible refine own_e ?_); conv => whnf) | ((with_reducible refine mkmap_b ?_); conv => whnf)))
    refine ret_p rfl (int_eq ?_)
    have : l.findIdx? (· == r) = none := by
      rw [List.findIdx?_eq_none_iff]
      intro x hx
      obtain ⟨i, hi, e⟩ := List.mem_iff_getElem.1 hx
      exact hall i x (by omega) (by rw [← e]; exact List.getElem?_eq_getElem hi)
    rw [idxI, this]
theorem idxI_any (l : List Int) (r : Int) : decide (idxI l r ≥ 0) = hasB l r := by
  unfold idxI hasB
  split
  · next i h =>
    obtain ⟨h1, h2, -⟩ := List.findIdx?_eq_some_iff_getElem.1 h
    rw [List.any_eq_true.2 ⟨_, List.getElem_mem h1, h2⟩]
    simp
  · next h =>
    rw [List.findIdx?_eq_none_iff] at h
    rw [List.any_eq_false.2 (fun x hx => by rw [h x hx]; simp)]
    rfl
theorem containsI_ok (l : List Int) (r : Int) (hl : l.length ≤ 1000000) : Good Try.prog TT false 46 [ints l, .int .i64 r] (· = .bool (hasB l r)) := by
  refine good_of mixed tabOk Try.func46 rfl rfl Try.ntmps46 Try.results46 rfl rfl ?_
  (conv => whnf); (repeat (first | (refine arith_i ⟨by omega, by omega⟩ ?_; conv => whnf) | (refine need_i (by first | omega | (simp only [List.length_append, List.length_cons, List.length_nil]; omega)) ?_; conv => whnf) | ((with_reducible refine branch_tt ?_); conv => whnf) | ((with_reducible refine branch_ff ?_); conv => whnf) | (with_reducible refine branch_not ?_) | ((with_reducible refine slc_e ?_); conv => whnf) | ((with_reducible refine callS_a ?_); conv => whnf) | ((with_reducible refine bld_a ?_); conv => whnf) | ((with_reducible refine own_e ?_); conv => whnf) | ((with_reducible refine mkmap_b ?_); conv => whnf)))
  refine call_e (indexI_ok l r hl) ?_
  (conv => whnf); (repeat (first | (refine arith_i ⟨by omega, by omega⟩ ?_; conv => whnf) | (refine need_i (by first | omega | (simp only [List.length_append, List.length_cons, List.length_nil]; omega)) ?_; conv => whnf) | ((with_reducible refine branch_tt ?_); conv => whnf) | ((with_reducible refine branch_ff ?_); conv => whnf) | (with_reducible refine branch_not ?_) | ((with_reducible refine slc_e ?_); conv => whnf) | ((with_reducible refine callS_a ?_); conv => whnf) | ((with_reducible refine bld_a ?_); conv => whnf) | ((with_reducible refine own_e ?_); conv => whnf) | ((with_reducible refine mkmap_b ?_); conv => whnf)))
  exact ret_p rfl (bool_eq (idxI_any l r))
/-! Restrict -/
def unitCo (n : Nat) (a : Int) : List Int := (List.replicate n (0 : Int)).set a.toNat 1
def unitRow (n : Nat) (a v : Int) : Row := ⟨unitCo n a, v, v⟩
def freeL (an us : List Int) : List Int := us.filter fun u => !hasB an u
def resRows (P : Prog) (an us : List Int) : List Row := P.rows ++ an.map (fun a => unitRow P.costs.length a 1) ++ (freeL an us).map (fun u => unitRow P.costs.length u 0)
def resE (P : Prog) (an us : List Int) : Int := if validB P = false then 1 else if choiceB an P.costs.length = false ∨ choiceB us P.costs.length = false then 2 else if 60 < (resRows P an us).length then 3 else 0
def resP (P : Prog) (an us : List Int) : Prog := if resE P an us = 0 then ⟨P.costs, resRows P an us⟩ else ⟨[], []⟩
def resV (P : Prog) (an us : List Int) : AV := .tup [progV (resP P an us), .int .i64 (resE P an us)]
theorem unitCo_enc (n : Nat) (a : Int) : (unitCo n a).map encI = ((List.replicate n [AV.int .i64 0]).set a.toNat [.int .i64 1]) := by
  rw [unitCo, List.map_set, List.map_replicate]; rfl
theorem unitCo_mod (n : Nat) (a : Int) : (List.replicate n [AV.int .i64 0]).modify a.toNat (fun x => x.set 0 (.int .i64 1)) = (unitCo n a).map encI := by
  rw [unitCo_enc]
  apply List.ext_getElem?
  intro i
  rw [List.getElem?_modify, List.getElem?_set, List.getElem?_replicate, List.length_replicate]
  by_cases h : a.toNat = i
  · subst h
    by_cases h2 : a.toNat < n
    · simp [h2]
    · simp [h2]
  · simp [h]
theorem single_ok (n : Nat) (a v : Int) (hn : n ≤ 1000) (ha : 0 ≤ a ∧ a < n) : Good Try.prog TT false 45 [.int .i64 n, .int .i64 a, .int .i64 v] (· = .agg (encRow (unitRow n a v))) := by
  refine good_of mixed tabOk Try.func45 rfl rfl Try.ntmps45 Try.results45 rfl rfl ?_
  (conv => whnf); (repeat' (first | (refine arith_i ⟨by omega, by omega⟩ ?_; conv => whnf) | (refine arith_u ⟨by omega, by omega⟩ ?_; conv => whnf) | (refine arith_8 ⟨by omega, by omega⟩ ?_; conv => whnf) | (refine need_i (by first | omega | (simp only [List.length_cons, List.length_nil]; omega) | (simp only [List.length_append, List.length_cons, List.length_nil, List.length_map, List.length_replicate, List.length_modify]; omega)) ?_; conv => whnf) | ((with_reducible refine branch_tt ?_); conv => whnf) | ((with_reducible refine branch_ff ?_); conv => whnf) | (with_reducible refine branch_not ?_) | ((refine idx_r (by omega) (by omega) ?_); conv => whnf) | ((with_reducible refine slc_e ?_); conv => whnf) | ((with_reducible refine callS_a ?_); conv => whnf) | ((with_reducible refine bld_a ?_); conv => whnf) | ((with_reducible refine own_e ?_); conv => whnf) | ((with_reducible refine mkmap_b ?_); conv => whnf) | ((with_reducible refine branch_d (fun hq => ?_) (fun hq => ?_)) <;> (try (exfalso; omega)) <;> (conv => whnf)) | ((with_reducible refine branch_e (fun hq => ?_) (fun hq => ?_)) <;> (try (exfalso; omega)) <;> (conv => whnf)) | ((with_reducible refine branch_n (fun hq => ?_) (fun hq => ?_)) <;> (try (exfalso; omega)) <;> (conv => whnf)) | ((with_reducible refine branch_i (fun hq => ?_) (fun hq => ?_)) <;> (try (exfalso; omega)) <;> (conv => whnf))))
  exact ret_a (cs' := encRow (unitRow n a v)) ⟨rc_o' (unitCo_mod n a), rc_p rfl, rc_p rfl, trivial⟩ rfl
theorem unit_ok (n : Nat) (a v : Int) (hn : n ≤ 1000) (ha : 0 ≤ a ∧ a < n) : Good Try.prog TT false 49 [.int .i64 n, .int .i64 a, .int .i64 v] (· = .agg (encRow (unitRow n a v))) := by
  refine good_of mixed tabOk Try.func49 rfl rfl Try.ntmps49 Try.results49 rfl rfl ?_
  (conv => whnf); (repeat' (first | (refine arith_i ⟨by omega, by omega⟩ ?_; conv => whnf) | (refine arith_u ⟨by omega, by omega⟩ ?_; conv => whnf) | (refine arith_8 ⟨by omega, by omega⟩ ?_; conv => whnf) | (refine need_i (by first | omega | (simp only [List.length_cons, List.length_nil]; omega) | (simp only [List.length_append, List.length_cons, List.length_nil, List.length_map, List.length_replicate, List.length_modify]; omega)) ?_; conv => whnf) | ((with_reducible refine branch_tt ?_); conv => whnf) | ((with_reducible refine branch_ff ?_); conv => whnf) | (with_reducible refine branch_not ?_) | ((refine idx_r (by omega) (by omega) ?_); conv => whnf) | ((with_reducible refine slc_e ?_); conv => whnf) | ((with_reducible refine callS_a ?_); conv => whnf) | ((with_reducible refine bld_a ?_); conv => whnf) | ((with_reducible refine own_e ?_); conv => whnf) | ((with_reducible refine mkmap_b ?_); conv => whnf) | ((with_reducible refine branch_d (fun hq => ?_) (fun hq => ?_)) <;> (try (exfalso; omega)) <;> (conv => whnf)) | ((with_reducible refine branch_e (fun hq => ?_) (fun hq => ?_)) <;> (try (exfalso; omega)) <;> (conv => whnf)) | ((with_reducible refine branch_n (fun hq => ?_) (fun hq => ?_)) <;> (try (exfalso; omega)) <;> (conv => whnf)) | ((with_reducible refine branch_i (fun hq => ?_) (fun hq => ?_)) <;> (try (exfalso; omega)) <;> (conv => whnf))))
  exact ret_a (cs' := encRow (unitRow n a v)) ⟨rc_o' (unitCo_mod n a), rc_p rfl, rc_p rfl, trivial⟩ rfl
theorem res_err {P : Prog} {an us : List Int} {e : Int} (h : resE P an us = e) (he : e ≠ 0) : aret (.tup [.agg [.nil, .nil], .int .i64 e]) (· = resV P an us) :=
  ret_t (rs := [progV ⟨[], []⟩, .int .i64 e]) ⟨.inr ⟨_, _, rfl, rfl, rc_n, rc_n, trivial⟩, (rc_p rfl).g, trivial⟩ (by rw [resV, resP, h, if_neg he])
theorem free_next {an us : List Int} {k : Nat} {u : Int} (h : us[k]? = some u) : freeL an (us.take (k + 1)) = freeL an (us.take k) ++ (if hasB an u then [] else [u]) := by
  rw [List.take_add_one, h, freeL, freeL, List.filter_append]
  cases hh : hasB an u <;> simp [hh]
theorem res_next {P : Prog} {an us : List Int} {j : Nat} {u : Int} (h : us[j]? = some u) : (resRows P an (us.take (j + 1))).map encRow = (resRows P an (us.take j)).map encRow ++ (if hasB an u then [] else [encRow (unitRow P.costs.length u 0)]) := by
  rw [resRows, resRows, free_next h]
  cases hasB an u <;> simp
end Go.Proofs.Ytengafkfgcdpeaa
end

/- Layer 11: Restrict of the reference. -/
section
namespace Go.Proofs.Ytengafkfgcdpeaa
set_option linter.unusedVariables false
set_option linter.unusedSimpArgs false
set_option linter.unnecessarySimpa false
set_option linter.unusedSectionVars false
set_option maxRecDepth 10000
open Go.RowKit
theorem res_fin2 {P : Prog} {an us : List Int} {es2 : List (List AV)} {t2 : Tg} (h : resE P an us = 0) (h2 : es2 = (resRows P an us).map encRow) : aret (.tup [.agg [ints P.costs, .own t2 39 3 es2], .int .i64 0]) (· = resV P an us) :=
  ret_t (rs := [progV ⟨P.costs, resRows P an us⟩, .int .i64 0]) ⟨.inr ⟨_, _, rfl, rfl, rc_p rfl, rc_o' h2, trivial⟩, (rc_p rfl).g, trivial⟩ (by rw [resV, resP, h, if_pos rfl])
set_option maxHeartbeats 4000000 in
theorem rRestrict_ok (P : Prog) (an us : List Int) (hP : Fits P) (ha : an.length ≤ 9223372036854775807) (hu : us.length ≤ 9223372036854775807) : Good Try.prog TT false 16 [progV P, ints an, ints us] (· = resV P an us) := by
  have LC : (P.costs.map encI).length = P.costs.length := List.length_map ..
  have LR : (P.rows.map encRow).length = P.rows.length := List.length_map ..
  have LA : (an.map encI).length = an.length := List.length_map ..
  have LU : (us.map encI).length = us.length := List.length_map ..
  refine good_of mixed tabOk Try.func16 rfl rfl Try.ntmps16 Try.results16 rfl rfl ?_
  (conv => whnf); (repeat' (first | (refine arith_i ⟨by omega, by omega⟩ ?_; conv => whnf) | (refine arith_u ⟨by omega, by omega⟩ ?_; conv => whnf) | (refine arith_8 ⟨by omega, by omega⟩ ?_; conv => whnf) | (refine need_i (by first | omega | (simp only [List.length_cons, List.length_nil]; omega) | (simp only [List.length_append, List.length_cons, List.length_nil, List.length_map, List.length_replicate, List.length_modify]; omega)) ?_; conv => whnf) | ((with_reducible refine branch_tt ?_); conv => whnf) | ((with_reducible refine branch_ff ?_); conv => whnf) | (with_reducible refine branch_not ?_) | ((refine call_e (rValid_ok P hP) ?_); conv => whnf) | (((rw [LC]; refine call_e (rChoice_any an P.costs.length ha hP.1) ?_)); conv => whnf) | ((refine call_e (rChoice_any us P.costs.length hu hP.1) ?_); conv => whnf) | ((with_reducible refine slc_e ?_); conv => whnf) | ((with_reducible refine callS_a ?_); conv => whnf) | ((with_reducible refine bld_a ?_); conv => whnf) | ((with_reducible refine own_e ?_); conv => whnf) | ((with_reducible refine mkmap_b ?_); conv => whnf) | ((with_reducible refine branch_d (fun hq => ?_) (fun hq => ?_)) <;> (try (exfalso; omega)) <;> (conv => whnf)) | ((with_reducible refine branch_e (fun hq => ?_) (fun hq => ?_)) <;> (try (exfalso; omega)) <;> (conv => whnf)) | ((with_reducible refine branch_n (fun hq => ?_) (fun hq => ?_)) <;> (try (exfalso; omega)) <;> (conv => whnf)) | ((with_reducible refine branch_i (fun hq => ?_) (fun hq => ?_)) <;> (try (exfalso; omega)) <;> (conv => whnf))))
  all_goals first
    | exact res_err (e := 1) (by rw [resE, if_pos (by assumption)]) (by omega)
    | exact res_err (e := 2) (by rw [resE, if_neg (by simp [*]), if_pos (by simp [*])]) (by omega)
    | skip
  have hv : validB P = true := by assumption
  have ha2 : choiceB an P.costs.length = true := by assumption
  have hu2 : choiceB us P.costs.length = true := by assumption
  have hcl := (validB_parts hv).1
  have hrl := (validB_parts hv).2.1
  have hal := choice_len ha2
  have hul := choice_len hu2
  (conv => whnf); (repeat' (first | (refine arith_i ⟨by omega, by omega⟩ ?_; conv => whnf) | (refine arith_u ⟨by omega, by omega⟩ ?_; conv => whnf) | (refine arith_8 ⟨by omega, by omega⟩ ?_; conv => whnf) | (refine need_i (by first | omega | (simp only [List.length_cons, List.length_nil]; omega) | (simp only [List.length_append, List.length_cons, List.length_nil, List.length_map, List.length_replicate, List.length_modify]; omega)) ?_; conv => whnf) | ((with_reducible refine branch_tt ?_); conv => whnf) | ((with_reducible refine branch_ff ?_); conv => whnf) | (with_reducible refine branch_not ?_) | ((with_reducible refine slc_e ?_); conv => whnf) | ((with_reducible refine callS_a ?_); conv => whnf) | ((with_reducible refine bld_a ?_); conv => whnf) | ((with_reducible refine own_e ?_); conv => whnf) | ((with_reducible refine mkmap_b ?_); conv => whnf) | ((with_reducible refine branch_d (fun hq => ?_) (fun hq => ?_)) <;> (try (exfalso; omega)) <;> (conv => whnf)) | ((with_reducible refine branch_e (fun hq => ?_) (fun hq => ?_)) <;> (try (exfalso; omega)) <;> (conv => whnf)) | ((with_reducible refine branch_n (fun hq => ?_) (fun hq => ?_)) <;> (try (exfalso; omega)) <;> (conv => whnf)) | ((with_reducible refine branch_i (fun hq => ?_) (fun hq => ?_)) <;> (try (exfalso; omega)) <;> (conv => whnf))))
  refine loop_i (fun j : Nat => j ≤ an.length) (fun j => mkSt [(1, ints an), (2, ints us), (3, .ptr 3 0), (6, .ptr 6 0), (8, .int .i64 P.costs.length), (9, .own 33 39 3 ((P.rows ++ (an.take j).map fun a => unitRow P.costs.length a 1).map encRow)), (10, .int .i64 j)] [(3, [ints P.costs, rowsV P.rows]), (6, [.nil, .nil])] false) (fun j => an.length - j) 0 (Nat.zero_le _) (by rw [List.take_zero, List.map_nil, List.append_nil]; exact (le_mk (by repeat' (first | exact trivial | rfl | apply And.intro)) (by repeat' (first | exact trivial | rfl | apply And.intro)) rfl)) ?_
  intro j hj
  have LT3 : ((P.rows ++ (an.take j).map fun a => unitRow P.costs.length a 1).map encRow).length = P.rows.length + j := by simp; omega
  (conv => whnf); (repeat' (first | (refine arith_i ⟨by omega, by omega⟩ ?_; conv => whnf) | (refine arith_u ⟨by omega, by omega⟩ ?_; conv => whnf) | (refine arith_8 ⟨by omega, by omega⟩ ?_; conv => whnf) | (refine need_i (by first | omega | (simp only [List.length_cons, List.length_nil]; omega) | (simp only [List.length_append, List.length_cons, List.length_nil, List.length_map, List.length_replicate, List.length_modify]; omega)) ?_; conv => whnf) | ((with_reducible refine branch_tt ?_); conv => whnf) | ((with_reducible refine branch_ff ?_); conv => whnf) | (with_reducible refine branch_not ?_) | ((refine idx_cs (by assumption) ?_); conv => whnf) | (((refine idx_c (xs := an) (by omega) fun a haa => ?_; have hae := choice_elt ha2 haa; have hsn : (P.rows ++ (an.take (j + 1)).map fun a => unitRow P.costs.length a 1).map encRow = (P.rows ++ (an.take j).map fun a => unitRow P.costs.length a 1).map encRow ++ [encRow (unitRow P.costs.length a 1)] := (by rw [List.take_add_one, haa]; simp))); conv => whnf) | ((refine call_e (unit_ok P.costs.length a 1 (by omega) hae) ?_); conv => whnf) | ((with_reducible refine slc_e ?_); conv => whnf) | ((with_reducible refine callS_a ?_); conv => whnf) | ((with_reducible refine bld_a ?_); conv => whnf) | ((with_reducible refine own_e ?_); conv => whnf) | ((with_reducible refine mkmap_b ?_); conv => whnf) | ((with_reducible refine branch_d (fun hq => ?_) (fun hq => ?_)) <;> (try (exfalso; omega)) <;> (conv => whnf)) | ((with_reducible refine branch_e (fun hq => ?_) (fun hq => ?_)) <;> (try (exfalso; omega)) <;> (conv => whnf)) | ((with_reducible refine branch_n (fun hq => ?_) (fun hq => ?_)) <;> (try (exfalso; omega)) <;> (conv => whnf)) | ((with_reducible refine branch_i (fun hq => ?_) (fun hq => ?_)) <;> (try (exfalso; omega)) <;> (conv => whnf))))
  · exact ⟨j + 1, by omega, by rw [hsn]; exact (le_mk (by repeat' (first | exact trivial | rfl | apply And.intro)) (by repeat' (first | exact trivial | rfl | apply And.intro)) rfl), by omega⟩
  have hjj : an.take j = an := List.take_of_length_le (by omega)
  rw [hjj] at LT3 ⊢
  have LF : ∀ j, (freeL an (us.take j)).length ≤ j := fun j => Nat.le_trans (List.length_filter_le ..) (by simp; omega)
  refine loop_i (fun j : Nat => j ≤ us.length) (fun j => mkSt [(1, ints an), (2, ints us), (3, .ptr 3 0), (6, .ptr 6 0), (8, .int .i64 P.costs.length), (9, .own 33 39 3 ((resRows P an (us.take j)).map encRow)), (11, .int .i64 j)] [(3, [ints P.costs, rowsV P.rows]), (6, [.nil, .nil])] false) (fun j => us.length - j) 0 (Nat.zero_le _) (by rw [show resRows P an (us.take 0) = P.rows ++ an.map (fun a => unitRow P.costs.length a 1) by simp [resRows, freeL]]; exact (le_mk (by repeat' (first | exact trivial | rfl | apply And.intro)) (by repeat' (first | exact trivial | rfl | apply And.intro)) rfl)) ?_
  intro j hj
  have LT4 : ((resRows P an (us.take j)).map encRow).length ≤ P.rows.length + an.length + j := by
    have := LF j
    simp [resRows]; omega
  (conv => whnf); (repeat' (first | (refine arith_i ⟨by omega, by omega⟩ ?_; conv => whnf) | (refine arith_u ⟨by omega, by omega⟩ ?_; conv => whnf) | (refine arith_8 ⟨by omega, by omega⟩ ?_; conv => whnf) | (refine need_i (by first | omega | (simp only [List.length_cons, List.length_nil]; omega) | (simp only [List.length_append, List.length_cons, List.length_nil, List.length_map, List.length_replicate, List.length_modify]; omega)) ?_; conv => whnf) | ((with_reducible refine branch_tt ?_); conv => whnf) | ((with_reducible refine branch_ff ?_); conv => whnf) | (with_reducible refine branch_not ?_) | ((refine idx_cs (by assumption) ?_); conv => whnf) | (((refine idx_c (xs := us) (by omega) fun a haa => ?_; have hae := choice_elt hu2 haa; have hfn := res_next (P := P) (an := an) haa)); conv => whnf) | ((refine call_e (unit_ok P.costs.length a 0 (by omega) hae) ?_); conv => whnf) | ((refine call_e (has_ok an a (by omega)) ?_); conv => whnf) | ((with_reducible refine slc_e ?_); conv => whnf) | ((with_reducible refine callS_a ?_); conv => whnf) | ((with_reducible refine bld_a ?_); conv => whnf) | ((with_reducible refine own_e ?_); conv => whnf) | ((with_reducible refine mkmap_b ?_); conv => whnf) | ((with_reducible refine branch_d (fun hq => ?_) (fun hq => ?_)) <;> (try (exfalso; omega)) <;> (conv => whnf)) | ((with_reducible refine branch_e (fun hq => ?_) (fun hq => ?_)) <;> (try (exfalso; omega)) <;> (conv => whnf)) | ((with_reducible refine branch_n (fun hq => ?_) (fun hq => ?_)) <;> (try (exfalso; omega)) <;> (conv => whnf)) | ((with_reducible refine branch_i (fun hq => ?_) (fun hq => ?_)) <;> (try (exfalso; omega)) <;> (conv => whnf))))
  · first | rw [if_pos hq, List.append_nil] at hfn | rw [if_neg (by rw [hq]; decide)] at hfn
    exact ⟨j + 1, by omega, by rw [hfn]; exact (le_mk (by repeat' (first | exact trivial | rfl | apply And.intro)) (by repeat' (first | exact trivial | rfl | apply And.intro)) rfl), by omega⟩
  · first | rw [if_pos hq, List.append_nil] at hfn | rw [if_neg (by rw [hq]; decide)] at hfn
    exact ⟨j + 1, by omega, by rw [hfn]; exact (le_mk (by repeat' (first | exact trivial | rfl | apply And.intro)) (by repeat' (first | exact trivial | rfl | apply And.intro)) rfl), by omega⟩
  all_goals
    have hjj2 : us.take j = us := List.take_of_length_le (by omega)
    rw [hjj2, List.length_map] at hq
  · exact res_err (e := 3) (by rw [resE, if_neg (by simp [*]), if_neg (by simp [*]), if_pos (by omega)]) (by omega)
  · exact res_fin2 (by rw [resE, if_neg (by simp [*]), if_neg (by simp [*]), if_neg (by omega)]) (by rw [hjj2])
end Go.Proofs.Ytengafkfgcdpeaa
end

/- Layer 11: Restrict, where the caller goes on with the used options. -/
section
namespace Go.Proofs.Ytengafkfgcdpeaa
set_option linter.unusedVariables false
set_option linter.unusedSimpArgs false
set_option linter.unnecessarySimpa false
set_option linter.unusedSectionVars false
set_option maxRecDepth 10000
open Go.RowKit
def plGL11c_0 : Plan := (.take 0 (.take 1 (.take 2 (.take 3 (.take 5 (.take 6 (.take 7 (.take 8 (.alt 4 (.take 9 (.alt 10 (.alt 11 (.take 12 (.alt 13 .done .stop)) .stop) .stop)) .stop)))))))))
def plGL11c_1 : Plan := (.take 0 (.take 1 (.take 2 (.take 3 (.alt 4 (.alt 5 (.alt 6 (.take 7 (.alt 8 .done .stop)) .stop) .stop) .stop)))))
def plGL11c_2 : Plan := (.take 0 (.take 2 (.take 3 (.alt 1 (.alt 4 (.alt 5 (.alt 6 (.take 7 (.alt 8 .done .stop)) .stop) .stop) .stop) (.alt 4 (.alt 1 (.alt 5 (.alt 6 (.take 7 (.alt 8 .done .stop)) .stop) .stop) (.alt 5 (.alt 1 (.alt 6 (.take 7 (.alt 8 .done .stop)) .stop) .stop) .stop)) .stop)))))
def ResM (P : Prog) (an us : List Int) (r : AV) (ov : List (Nat × AV)) (bx : List (Nat × List AV)) : Prop :=
  ((resE P an us ≠ 0 ∧ r = .tup [.agg [.nil, .nil], .int .i64 (resE P an us)]) ∨ (resE P an us = 0 ∧ r = .tup [.agg [ints P.costs, rowsV (resRows P an us)], .int .i64 0])) ∧ ov = [(1002, .own 0 3 1 (us.map encI))] ∧ bx = []
theorem resM_err {P : Prog} {an us : List Int} {e : Int} {s : St} (hle : Le TT (s.put 0 (.tup [.agg [.nil, .nil], .int .i64 e])) (mkSt [(0, .tup [.agg [.nil, .nil], .int .i64 e]), (1002, .own 0 3 1 (us.map encI))] [] false)) (h : resE P an us = e) (he : e ≠ 0) (ht : s.tp = false) : aretM TT false (.tup [.agg [.nil, .nil], .int .i64 e]) (ResM P an us) s :=
  retM_i _ _ _ ht hle rfl ⟨.inl ⟨by omega, by rw [h]⟩, rfl, rfl⟩
theorem resM_fin {P : Prog} {an us : List Int} {s : St} {v : AV} (h : resE P an us = 0) (hle : Le TT (s.put 0 v) (mkSt [(0, .tup [.agg [ints P.costs, rowsV (resRows P an us)], .int .i64 0]), (1002, .own 0 3 1 (us.map encI))] [] false)) (ht : s.tp = false) : aretM TT false v (ResM P an us) s :=
  retM_i _ _ _ ht hle rfl ⟨.inr ⟨h, rfl⟩, rfl, rfl⟩
set_option maxHeartbeats 4000000 in
theorem restrictM_ok (P : Prog) (an us : List Int) (hP : Fits P) (ha : an.length ≤ 9223372036854775807) (hu : us.length ≤ 9223372036854775807) : GoodM Try.prog TT false 15 [progV P, ints an, .own 0 3 1 (us.map encI)] [] (ResM P an us) := by
  have LC : (P.costs.map encI).length = P.costs.length := List.length_map ..
  have LR : (P.rows.map encRow).length = P.rows.length := List.length_map ..
  have LA : (an.map encI).length = an.length := List.length_map ..
  have LU : (us.map encI).length = us.length := List.length_map ..
  refine good_of_m (fun _ => false) mixed tabOk Try.func15 rfl rfl Try.ntmps15 Try.results15 rfl rfl ?_
  (conv => whnf); (repeat' (first | (refine arith_i ⟨by omega, by omega⟩ ?_; conv => whnf) | (refine arith_u ⟨by omega, by omega⟩ ?_; conv => whnf) | (refine arith_8 ⟨by omega, by omega⟩ ?_; conv => whnf) | (refine need_i (by first | omega | (simp only [List.length_cons, List.length_nil]; omega) | (simp only [List.length_append, List.length_cons, List.length_nil, List.length_map, List.length_replicate, List.length_modify]; omega)) ?_; conv => whnf) | ((with_reducible refine branch_tt ?_); conv => whnf) | ((with_reducible refine branch_ff ?_); conv => whnf) | (with_reducible refine branch_not ?_) | ((refine call_e (valid_ok P hP.1 hP.2.1 hP.2.2) ?_); conv => whnf) | (((rw [LC]; refine call_e (pChoice_any an P.costs.length ha hP.1) ?_)); conv => whnf) | ((refine call_e (pChoice_any us P.costs.length hu hP.1) ?_); conv => whnf) | (((refine call_e (clone_ok P.costs hP.1) ?_)); conv => whnf) | ((with_reducible refine slc_e ?_); conv => whnf) | ((with_reducible refine callS_a ?_); conv => whnf) | ((with_reducible refine bld_a ?_); conv => whnf) | ((with_reducible refine own_e ?_); conv => whnf) | ((with_reducible refine mkmap_b ?_); conv => whnf) | (refine draw_i 13 plGL11c_0 (by decide +kernel) ?_; (conv => whnf); fail_if_success (guard_target =~ False)) | (refine draw_i 8 plGL11c_1 (by decide +kernel) ?_; (conv => whnf); fail_if_success (guard_target =~ False)) | (refine draw_i 8 plGL11c_2 (by decide +kernel) ?_; (conv => whnf); fail_if_success (guard_target =~ False)) | (refine draw_i 8 plGL11c_1 (by decide +kernel) ?_; (conv => whnf); fail_if_success (guard_target =~ False)) | (refine draw_i 8 plGL11c_2 (by decide +kernel) ?_; (conv => whnf); fail_if_success (guard_target =~ False)) | ((with_reducible refine And.intro ?_ ?_) <;> (conv => whnf)) | (with_reducible exact trivial) | ((with_reducible refine branch_d (fun hq => ?_) (fun hq => ?_)) <;> (try (exfalso; omega)) <;> (conv => whnf)) | ((with_reducible refine branch_e (fun hq => ?_) (fun hq => ?_)) <;> (try (exfalso; omega)) <;> (conv => whnf)) | ((with_reducible refine branch_n (fun hq => ?_) (fun hq => ?_)) <;> (try (exfalso; omega)) <;> (conv => whnf)) | ((with_reducible refine branch_i (fun hq => ?_) (fun hq => ?_)) <;> (try (exfalso; omega)) <;> (conv => whnf))))
  all_goals first
    | exact resM_err (e := 1) (le_mk (by repeat' (first | exact trivial | rfl | apply And.intro)) (by repeat' (first | exact trivial | rfl | apply And.intro)) rfl) (by rw [resE, if_pos (by assumption)]) (by omega) rfl
    | exact resM_err (e := 2) (le_mk (by repeat' (first | exact trivial | rfl | apply And.intro)) (by repeat' (first | exact trivial | rfl | apply And.intro)) rfl) (by rw [resE, if_neg (by simp [*]), if_pos (by simp [*])]) (by omega) rfl
    | skip
  have hv : validB P = true := by assumption
  have ha2 : choiceB an P.costs.length = true := by assumption
  have hu2 : choiceB us P.costs.length = true := by assumption
  have hcl := (validB_parts hv).1
  have hrl := (validB_parts hv).2.1
  have hal := choice_len ha2
  have hul := choice_len hu2
  refine loop_i (fun k : Nat => k ≤ P.rows.length) (fun k => mkSt [(1, ints an), (2, .own 0 3 1 (us.map encI)), (6, .ptr 6 0), (8, .int .i64 P.costs.length), (9, .ptr 9 0), (39, rowsV P.rows), (40, .int .i64 (P.rows.map encRow).length), (41, .int .i64 k), (1002, .own 0 3 1 (us.map encI))] [(3, [ints P.costs, rowsV P.rows]), (6, [.nil, .nil]), (9, [.own 36 3 1 (P.costs.map encI), .own 900 39 3 ((P.rows.take k).map encRow)])] false) (fun k => P.rows.length - k) 0 (Nat.zero_le _) (Le.trans (le_adoptBox 9 1 900 39 3 rfl rfl) (le_mk (by repeat' (first | exact trivial | rfl | apply And.intro)) (by repeat' (first | exact trivial | rfl | apply And.intro)) rfl)) ?_
  intro k hk
  have LT : ((P.rows.take k).map encRow).length = k := by simp; omega
  have LT2 : (P.rows.take k).length = k := by simp; omega
  (conv => whnf); (repeat' (first | (refine arith_i ⟨by omega, by omega⟩ ?_; conv => whnf) | (refine arith_u ⟨by omega, by omega⟩ ?_; conv => whnf) | (refine arith_8 ⟨by omega, by omega⟩ ?_; conv => whnf) | (refine need_i (by first | omega | (simp only [List.length_cons, List.length_nil]; omega) | (simp only [List.length_append, List.length_cons, List.length_nil, List.length_map, List.length_replicate, List.length_modify]; omega)) ?_; conv => whnf) | ((with_reducible refine branch_tt ?_); conv => whnf) | ((with_reducible refine branch_ff ?_); conv => whnf) | (with_reducible refine branch_not ?_) | (((refine idx_c (xs := P.rows) (by omega) fun r hrr => ?_; have hvr := valid_rows hv (List.mem_of_getElem? hrr); have hsn : (P.rows.take (k + 1)).map encRow = (P.rows.take k).map encRow ++ [encRow r] := (by rw [List.take_add_one, hrr, List.map_append]; rfl))); conv => whnf) | ((refine call_e (clone_ok r.coefs (by omega)) ?_); conv => whnf) | ((with_reducible refine slc_e ?_); conv => whnf) | ((with_reducible refine callS_a ?_); conv => whnf) | ((with_reducible refine bld_a ?_); conv => whnf) | ((with_reducible refine own_e ?_); conv => whnf) | ((with_reducible refine mkmap_b ?_); conv => whnf) | (refine draw_i 13 plGL11c_0 (by decide +kernel) ?_; (conv => whnf); fail_if_success (guard_target =~ False)) | (refine draw_i 8 plGL11c_1 (by decide +kernel) ?_; (conv => whnf); fail_if_success (guard_target =~ False)) | (refine draw_i 8 plGL11c_2 (by decide +kernel) ?_; (conv => whnf); fail_if_success (guard_target =~ False)) | (refine draw_i 8 plGL11c_1 (by decide +kernel) ?_; (conv => whnf); fail_if_success (guard_target =~ False)) | (refine draw_i 8 plGL11c_2 (by decide +kernel) ?_; (conv => whnf); fail_if_success (guard_target =~ False)) | ((with_reducible refine And.intro ?_ ?_) <;> (conv => whnf)) | (with_reducible exact trivial) | ((with_reducible refine branch_d (fun hq => ?_) (fun hq => ?_)) <;> (try (exfalso; omega)) <;> (conv => whnf)) | ((with_reducible refine branch_e (fun hq => ?_) (fun hq => ?_)) <;> (try (exfalso; omega)) <;> (conv => whnf)) | ((with_reducible refine branch_n (fun hq => ?_) (fun hq => ?_)) <;> (try (exfalso; omega)) <;> (conv => whnf)) | ((with_reducible refine branch_i (fun hq => ?_) (fun hq => ?_)) <;> (try (exfalso; omega)) <;> (conv => whnf))))
  · exact ⟨k + 1, by omega, by rw [hsn]; exact (le_mk (by repeat' (first | exact trivial | rfl | apply And.intro)) (by repeat' (first | exact trivial | rfl | apply And.intro)) rfl), by omega⟩
  have hkk : P.rows.take k = P.rows := List.take_of_length_le (by omega)
  rw [hkk]
  refine loop_i (fun j : Nat => j ≤ an.length) (fun j => mkSt [(1, ints an), (2, .own 0 3 1 (us.map encI)), (6, .ptr 6 0), (8, .int .i64 P.costs.length), (9, .ptr 9 0), (59, ints an), (60, .int .i64 (an.map encI).length), (61, .int .i64 j), (1002, .own 0 3 1 (us.map encI))] [(3, [ints P.costs, rowsV P.rows]), (6, [.nil, .nil]), (9, [.own 36 3 1 (P.costs.map encI), .own 900 39 3 ((P.rows ++ (an.take j).map fun a => unitRow P.costs.length a 1).map encRow)])] false) (fun j => an.length - j) 0 (Nat.zero_le _) (by rw [List.take_zero, List.map_nil, List.append_nil]; exact (le_mk (by repeat' (first | exact trivial | rfl | apply And.intro)) (by repeat' (first | exact trivial | rfl | apply And.intro)) rfl)) ?_
  intro j hj
  have LT3 : ((P.rows ++ (an.take j).map fun a => unitRow P.costs.length a 1).map encRow).length = P.rows.length + j := by simp; omega
  (conv => whnf); (repeat' (first | (refine arith_i ⟨by omega, by omega⟩ ?_; conv => whnf) | (refine arith_u ⟨by omega, by omega⟩ ?_; conv => whnf) | (refine arith_8 ⟨by omega, by omega⟩ ?_; conv => whnf) | (refine need_i (by first | omega | (simp only [List.length_cons, List.length_nil]; omega) | (simp only [List.length_append, List.length_cons, List.length_nil, List.length_map, List.length_replicate, List.length_modify]; omega)) ?_; conv => whnf) | ((with_reducible refine branch_tt ?_); conv => whnf) | ((with_reducible refine branch_ff ?_); conv => whnf) | (with_reducible refine branch_not ?_) | (((refine idx_c (xs := an) (by omega) fun a haa => ?_; have hae := choice_elt ha2 haa; have hsn : (P.rows ++ (an.take (j + 1)).map fun a => unitRow P.costs.length a 1).map encRow = (P.rows ++ (an.take j).map fun a => unitRow P.costs.length a 1).map encRow ++ [encRow (unitRow P.costs.length a 1)] := (by rw [List.take_add_one, haa]; simp))); conv => whnf) | ((refine call_e (single_ok P.costs.length a 1 (by omega) hae) ?_); conv => whnf) | ((with_reducible refine slc_e ?_); conv => whnf) | ((with_reducible refine callS_a ?_); conv => whnf) | ((with_reducible refine bld_a ?_); conv => whnf) | ((with_reducible refine own_e ?_); conv => whnf) | ((with_reducible refine mkmap_b ?_); conv => whnf) | (refine draw_i 13 plGL11c_0 (by decide +kernel) ?_; (conv => whnf); fail_if_success (guard_target =~ False)) | (refine draw_i 8 plGL11c_1 (by decide +kernel) ?_; (conv => whnf); fail_if_success (guard_target =~ False)) | (refine draw_i 8 plGL11c_2 (by decide +kernel) ?_; (conv => whnf); fail_if_success (guard_target =~ False)) | (refine draw_i 8 plGL11c_1 (by decide +kernel) ?_; (conv => whnf); fail_if_success (guard_target =~ False)) | (refine draw_i 8 plGL11c_2 (by decide +kernel) ?_; (conv => whnf); fail_if_success (guard_target =~ False)) | ((with_reducible refine And.intro ?_ ?_) <;> (conv => whnf)) | (with_reducible exact trivial) | ((with_reducible refine branch_d (fun hq => ?_) (fun hq => ?_)) <;> (try (exfalso; omega)) <;> (conv => whnf)) | ((with_reducible refine branch_e (fun hq => ?_) (fun hq => ?_)) <;> (try (exfalso; omega)) <;> (conv => whnf)) | ((with_reducible refine branch_n (fun hq => ?_) (fun hq => ?_)) <;> (try (exfalso; omega)) <;> (conv => whnf)) | ((with_reducible refine branch_i (fun hq => ?_) (fun hq => ?_)) <;> (try (exfalso; omega)) <;> (conv => whnf))))
  · exact ⟨j + 1, by omega, by rw [hsn]; exact (le_mk (by repeat' (first | exact trivial | rfl | apply And.intro)) (by repeat' (first | exact trivial | rfl | apply And.intro)) rfl), by omega⟩
  have hjj : an.take j = an := List.take_of_length_le (by omega)
  rw [hjj] at LT3 ⊢
  have LF : ∀ j, (freeL an (us.take j)).length ≤ j := fun j => Nat.le_trans (List.length_filter_le ..) (by simp; omega)
  refine loop_i (fun j : Nat => j ≤ us.length) (fun j => mkSt [(1, ints an), (6, .ptr 6 0), (8, .int .i64 P.costs.length), (9, .ptr 9 0), (74, .own 0 3 1 (us.map encI)), (75, .int .i64 (us.map encI).length), (76, .int .i64 j), (1002, .own 0 3 1 (us.map encI))] [(3, [ints P.costs, rowsV P.rows]), (6, [.nil, .nil]), (9, [.own 36 3 1 (P.costs.map encI), .own 900 39 3 ((resRows P an (us.take j)).map encRow)])] false) (fun j => us.length - j) 0 (Nat.zero_le _) (by rw [show resRows P an (us.take 0) = P.rows ++ an.map (fun a => unitRow P.costs.length a 1) by simp [resRows, freeL]]; exact (le_mk (by repeat' (first | exact trivial | rfl | apply And.intro)) (by repeat' (first | exact trivial | rfl | apply And.intro)) rfl)) ?_
  intro j hj
  have LT4 : ((resRows P an (us.take j)).map encRow).length ≤ P.rows.length + an.length + j := by
    have := LF j
    simp [resRows]; omega
  (conv => whnf); (repeat' (first | (refine arith_i ⟨by omega, by omega⟩ ?_; conv => whnf) | (refine arith_u ⟨by omega, by omega⟩ ?_; conv => whnf) | (refine arith_8 ⟨by omega, by omega⟩ ?_; conv => whnf) | (refine need_i (by first | omega | (simp only [List.length_cons, List.length_nil]; omega) | (simp only [List.length_append, List.length_cons, List.length_nil, List.length_map, List.length_replicate, List.length_modify]; omega)) ?_; conv => whnf) | ((with_reducible refine branch_tt ?_); conv => whnf) | ((with_reducible refine branch_ff ?_); conv => whnf) | (with_reducible refine branch_not ?_) | (((refine idx_c (xs := us) (by omega) fun a haa => ?_; have hae := choice_elt hu2 haa; have hfn := res_next (P := P) (an := an) haa)); conv => whnf) | ((refine call_e (single_ok P.costs.length a 0 (by omega) hae) ?_); conv => whnf) | ((refine call_e (containsI_ok an a (by omega)) ?_); conv => whnf) | ((with_reducible refine slc_e ?_); conv => whnf) | ((with_reducible refine callS_a ?_); conv => whnf) | ((with_reducible refine bld_a ?_); conv => whnf) | ((with_reducible refine own_e ?_); conv => whnf) | ((with_reducible refine mkmap_b ?_); conv => whnf) | (refine draw_i 13 plGL11c_0 (by decide +kernel) ?_; (conv => whnf); fail_if_success (guard_target =~ False)) | (refine draw_i 8 plGL11c_1 (by decide +kernel) ?_; (conv => whnf); fail_if_success (guard_target =~ False)) | (refine draw_i 8 plGL11c_2 (by decide +kernel) ?_; (conv => whnf); fail_if_success (guard_target =~ False)) | (refine draw_i 8 plGL11c_1 (by decide +kernel) ?_; (conv => whnf); fail_if_success (guard_target =~ False)) | (refine draw_i 8 plGL11c_2 (by decide +kernel) ?_; (conv => whnf); fail_if_success (guard_target =~ False)) | ((with_reducible refine And.intro ?_ ?_) <;> (conv => whnf)) | (with_reducible exact trivial) | ((with_reducible refine branch_d (fun hq => ?_) (fun hq => ?_)) <;> (try (exfalso; omega)) <;> (conv => whnf)) | ((with_reducible refine branch_e (fun hq => ?_) (fun hq => ?_)) <;> (try (exfalso; omega)) <;> (conv => whnf)) | ((with_reducible refine branch_n (fun hq => ?_) (fun hq => ?_)) <;> (try (exfalso; omega)) <;> (conv => whnf)) | ((with_reducible refine branch_i (fun hq => ?_) (fun hq => ?_)) <;> (try (exfalso; omega)) <;> (conv => whnf))))
  · rw [if_pos hq, List.append_nil] at hfn
    exact ⟨j + 1, by omega, by rw [hfn]; exact (le_mk (by repeat' (first | exact trivial | rfl | apply And.intro)) (by repeat' (first | exact trivial | rfl | apply And.intro)) rfl), by omega⟩
  · rw [if_neg (by rw [hq]; decide)] at hfn
    exact ⟨j + 1, by omega, by rw [hfn]; exact (le_mk (by repeat' (first | exact trivial | rfl | apply And.intro)) (by repeat' (first | exact trivial | rfl | apply And.intro)) rfl), by omega⟩
  all_goals
    have hjj2 : us.take j = us := List.take_of_length_le (by omega)
    rw [hjj2, List.length_map] at hq
  · exact resM_err (e := 3) (le_mk (by repeat' (first | exact trivial | rfl | apply And.intro)) (by repeat' (first | exact trivial | rfl | apply And.intro)) rfl) (by rw [resE, if_neg (by simp [*]), if_neg (by simp [*]), if_pos (by omega)]) (by omega) rfl
  · exact resM_fin (by rw [resE, if_neg (by simp [*]), if_neg (by simp [*]), if_neg (by omega)]) (Le.trans (le_erase 36) (Le.trans (le_erase 900) (le_mk ⟨by rw [hjj2] at *; rfl, rfl, trivial⟩ trivial rfl))) rfl
end Go.Proofs.Ytengafkfgcdpeaa
end

/- Layer 10, plain: excluding choices one after the other. -/
section
namespace Go.Proofs.Ytengafkfgcdpeaa
set_option linter.unusedVariables false
set_option linter.unusedSimpArgs false
set_option linter.unnecessarySimpa false
set_option linter.unusedSectionVars false
set_option maxRecDepth 10000
open Go.RowKit
theorem repCo_nth {n : Nat} {c : List Int} {i : Nat} (h : i < n) : nth (repCo n c) i = if hasB c (i : Int) then 1 else -1 := by
  simp [repCo, nth, List.getD_eq_getElem?_getD, h]
theorem sumOf_cons (vs : List Int) (x : Int) (ch : List Int) : sumOf vs (x :: ch) = nth vs x.toNat + sumOf vs ch := by
  have : ∀ k, k ≤ ch.length → sumTo vs (x :: ch) (k + 1) = nth vs x.toNat + sumTo vs ch k := by
    intro k
    induction k with
    | zero => intro _; simp [sumTo, nth]
    | succ k ih =>
      intro hk
      rw [sumTo, ih (by omega), sumTo]
      have : nth (x :: ch) (k + 1) = nth ch k := by simp [nth]
      rw [this]
      omega
  exact this ch.length (Nat.le_refl _)
theorem sumOf_nil (vs : List Int) : sumOf vs [] = 0 := rfl
/-- The row's sum: as many as are shared, less the others. -/
theorem rep_sum {n : Nat} {c : List Int} : ∀ {d : List Int} {lo : Nat}, Asc lo n d → sumOf (repCo n c) d = 2 * ((d.filter (hasB c)).length : Int) - d.length
  | [], lo, h => by simp [sumOf_nil]
  | x :: d, lo, h => by
    have hp := List.pairwise_cons.1 h.1
    have hx := h.2 x (by simp)
    have ih := rep_sum (n := n) (c := c) (d := d) (lo := lo) ⟨hp.2, fun y hy => h.2 y (by simp [hy])⟩
    rw [sumOf_cons, ih, repCo_nth (by omega), show ((x.toNat : Nat) : Int) = x by omega, List.filter_cons]
    cases hb : hasB c x with
    | true => simp; omega
    | false => simp; omega
theorem nodup_le {α : Type} [DecidableEq α] : ∀ {a b : List α}, a.Nodup → (∀ x ∈ a, x ∈ b) → a.length ≤ b.length
  | [], b, _, _ => by simp
  | x :: a, b, hn, hs => by
    have hn' := List.nodup_cons.1 hn
    have hx := hs x (by simp)
    have ih := nodup_le (a := a) (b := b.erase x) hn'.2 fun y hy => (List.mem_erase_of_ne (show y ≠ x from fun e => hn'.1 (by rw [← e]; exact hy))).2 (hs y (by simp [hy]))
    rw [List.length_erase_of_mem hx] at ih
    have := List.length_pos_of_mem hx
    simp only [List.length_cons]
    omega
theorem nodup_all {α : Type} [DecidableEq α] {a b : List α} (hn : a.Nodup) (hs : ∀ x ∈ a, x ∈ b) (hl : b.length ≤ a.length) : ∀ x ∈ b, x ∈ a := fun x hx => by
  rcases Classical.em (x ∈ a) with h | h
  · exact h
  · have := nodup_le (a := x :: a) (b := b) (List.nodup_cons.2 ⟨h, hn⟩) fun y hy => by
      rcases List.mem_cons.1 hy with rfl | hy
      · exact hx
      · exact hs y hy
    simp only [List.length_cons] at this
    omega
theorem asc_sub_len {n lo lo' : Nat} {d c : List Int} (hd : Asc lo n d) (hc : Asc lo' n c) (hs : ∀ x ∈ d, x ∈ c) : d.length ≤ c.length ∧ (d.length = c.length → d = c) := by
  have nd : d.Nodup := hd.1.imp (fun h => by omega)
  refine ⟨nodup_le nd hs, fun e => asc_ext hd hc fun x => ⟨hs x, nodup_all nd hs (by omega) x⟩⟩
/-- A choice meets the row exactly if it is another one. -/
theorem rep_meet {n : Nat} {c d : List Int} (hn : n ≤ 12) (hc : Asc 0 n c) (hd : Asc 0 n d) : meetB d (repRow n c) = decide (d ≠ c) := by
  have hs := rep_sum (c := c) hd
  have hdl := asc_len hd
  have hf : (d.filter (hasB c)).length ≤ d.length := List.length_filter_le ..
  have hfa : Asc 0 n (d.filter (hasB c)) := ⟨hd.1.filter _, fun x hx => hd.2 x (List.mem_filter.1 hx).1⟩
  have h1 := asc_sub_len hfa hc fun x hx => hasB_iff.1 (List.mem_filter.1 hx).2
  have h2 := asc_sub_len hfa hd fun x hx => (List.mem_filter.1 hx).1
  rw [Bool.eq_iff_iff]
  simp only [meetB, repRow, Bool.and_eq_true, decide_eq_true_eq, hs]
  constructor
  · rintro ⟨_, h⟩ rfl
    have : d.filter (hasB d) = d := List.filter_eq_self.2 fun x hx => hasB_iff.2 hx
    rw [this] at h
    omega
  · intro hne
    refine ⟨by omega, ?_⟩
    rcases Nat.lt_or_ge (d.filter (hasB c)).length c.length with h | h
    · omega
    · rcases Nat.lt_or_ge (d.filter (hasB c)).length d.length with h' | h'
      · omega
      · exact absurd ((h2.2 (by omega)).symm.trans (h1.2 (by omega))) hne
/-- The program without some choices. -/
def repsP (P : Prog) (E : List (List Int)) : Prog := ⟨P.costs, P.rows ++ E.map (repRow P.costs.length)⟩
section
variable {P : Prog} {E : List (List Int)}
theorem reps_met (hn : P.costs.length ≤ 12) (hE : ∀ c ∈ E, Asc 0 P.costs.length c) {d : List Int} (hd : Asc 0 P.costs.length d) : metB (repsP P E) d = (metB P d && decide (d ∉ E)) := by
  have : metB (repsP P E) d = (metB P d && E.all fun c => meetB d (repRow P.costs.length c)) := by
    simp only [metB, repsP, List.all_append, List.all_map]
    rfl
  rw [this]
  congr 1
  rw [Bool.eq_iff_iff, List.all_eq_true, decide_eq_true_eq]
  constructor
  · intro h hm
    have := h d hm
    rw [rep_meet hn (hE d hm) hd] at this
    simp at this
  · intro h c hc
    rw [rep_meet hn (hE c hc) hd]
    exact decide_eq_true fun e => h (e ▸ hc)
/-- What is left. -/
theorem reps_all (hn : P.costs.length ≤ 12) (hE : ∀ c ∈ E, Asc 0 P.costs.length c) {d : List Int} : d ∈ allF (repsP P E) ↔ d ∈ allF P ∧ d ∉ E := by
  rw [all_mem, all_mem]
  show Asc 0 P.costs.length d ∧ _ ↔ _
  constructor
  · rintro ⟨h1, h2⟩
    rw [reps_met hn hE h1, Bool.and_eq_true, decide_eq_true_eq] at h2
    exact ⟨⟨h1, h2.1⟩, h2.2⟩
  · rintro ⟨⟨h1, h2⟩, h3⟩
    exact ⟨h1, by rw [reps_met hn hE h1, Bool.and_eq_true, decide_eq_true_eq]; exact ⟨h2, h3⟩⟩
theorem all_nodup : (allF P).Nodup := all_sorted.imp fun {a b} h e => by
  subst e
  have := bef_asymm h
  rw [h] at this
  cases this
/-- What holds when some choices have been excluded, each the cheapest when its turn came. -/
structure NextInv (P : Prog) (E : List (List Int)) (cost : Int) : Prop where
  sub : ∀ c ∈ E, c ∈ allF P
  nd : E.Nodup
  low : ∀ d ∈ allF P, d ∉ E → cost ≤ sumOf P.costs d
  pos : 0 ≤ cost
variable {cost : Int}
theorem NextInv.found (h : NextInv P E cost) (hn : P.costs.length ≤ 12) : ((bestF (repsP P E)).1 = true ↔ E.length < (allF P).length) := by
  have hE : ∀ c ∈ E, Asc 0 P.costs.length c := fun c hc => (all_mem.1 (h.sub c hc)).1
  have hb := best_is (repsP P E)
  constructor
  · intro hf
    have hm := (reps_all hn hE).1 (hb.mem hf).1
    have := nodup_le (a := (bestF (repsP P E)).2.2 :: E) (b := allF P) (List.nodup_cons.2 ⟨hm.2, h.nd⟩) fun c hc => by
      rcases List.mem_cons.1 hc with rfl | hc
      · exact hm.1
      · exact h.sub c hc
    simp only [List.length_cons] at this
    omega
  · intro hlt
    cases hf : (bestF (repsP P E)).1 with
    | true => rfl
    | false =>
      exfalso
      have h0 := (hb.none hf).1
      have hall : ∀ d ∈ allF P, d ∈ E := fun d hd => by
        rcases Classical.em (d ∈ E) with h | h
        · exact h
        · have := (reps_all hn hE).2 ⟨hd, h⟩
          rw [h0] at this
          simp at this
      have := nodup_le (all_nodup (P := P)) hall
      omega
theorem NextInv.next (h : NextInv P E cost) (hv : validB P = true) (hf : (bestF (repsP P E)).1 = true) : cost ≤ (bestF (repsP P E)).2.1 ∧ (bestF (repsP P E)).2.2 ∈ allF P ∧ (bestF (repsP P E)).2.2 ∉ E ∧ NextInv P (E ++ [(bestF (repsP P E)).2.2]) (bestF (repsP P E)).2.1 := by
  have hn := (validB_parts hv).1
  have hE : ∀ c ∈ E, Asc 0 P.costs.length c := fun c hc => (all_mem.1 (h.sub c hc)).1
  have hb := best_is (repsP P E)
  have hm := hb.mem hf
  have hm2 := (reps_all hn hE).1 hm.1
  have hc1 : (bestF (repsP P E)).2.1 = sumOf P.costs (bestF (repsP P E)).2.2 := hm.2
  have hlo := h.low _ hm2.1 hm2.2
  refine ⟨by rw [hc1]; exact hlo, hm2.1, hm2.2, fun c hc => ?_, ?_, fun d hd hd' => ?_, by have := h.pos; omega⟩
  · rcases List.mem_append.1 hc with hc | hc
    · exact h.sub c hc
    · rw [List.mem_singleton.1 hc]; exact hm2.1
  · refine List.nodup_append.2 ⟨h.nd, by simp, fun a ha b hb' => ?_⟩
    rw [List.mem_singleton.1 hb']
    exact fun e => hm2.2 (e ▸ ha)
  · have : d ∈ allF (repsP P E) := (reps_all hn hE).2 ⟨hd, fun h => hd' (List.mem_append.2 (.inl h))⟩
    exact hb.least hf d this
end
end Go.Proofs.Ytengafkfgcdpeaa
end

/- Layer 11, plainly: sorting and compacting; maps as lists. -/
section
namespace Go.Proofs.Ytengafkfgcdpeaa
set_option linter.unusedVariables false
set_option linter.unusedSimpArgs false
set_option linter.unnecessarySimpa false
set_option linter.unusedSectionVars false
open Go.RowKit
theorem comp_sorted {d : Array Int} (hs : ∀ i j, i ≤ j → j < d.size → d[i]! ≤ d[j]!) : ∀ m, m ≤ d.size → (Lib.compactUpTo d m).Pairwise (· < ·) ∧ (∀ x ∈ Lib.compactUpTo d m, 0 < m ∧ x ≤ d[m - 1]!) ∧ ∀ x, x ∈ Lib.compactUpTo d m ↔ ∃ j, j < m ∧ d[j]! = x
  | 0, _ => by simp [Lib.compactUpTo]
  | m + 1, h => by
    obtain ⟨h1, h2, h3⟩ := comp_sorted hs m (by omega)
    have hm : d[m - 1]! ≤ d[m]! := hs _ _ (by omega) (by omega)
    rw [Lib.compactUpTo_succ]
    by_cases hk : Lib.keeps d m = true
    · rw [if_pos hk]
      refine ⟨?_, ?_, ?_⟩
      · rw [List.pairwise_append]
        refine ⟨h1, List.pairwise_singleton .., fun x hx y hy => ?_⟩
        rw [List.mem_singleton] at hy
        subst hy
        obtain ⟨hp, hle⟩ := h2 x hx
        have : d[m]! ≠ d[m - 1]! := by
          unfold Lib.keeps at hk
          rw [decide_eq_true_iff] at hk
          exact hk.resolve_left (by omega)
        omega
      · intro x hx
        rw [List.mem_append, List.mem_singleton] at hx
        refine ⟨by omega, ?_⟩
        show x ≤ d[m]!
        rcases hx with hx | rfl
        · have := (h2 x hx).2; omega
        · exact Int.le_refl _
      · intro x
        rw [List.mem_append, List.mem_singleton, h3]
        constructor
        · rintro (⟨j, hj, e⟩ | rfl)
          · exact ⟨j, by omega, e⟩
          · exact ⟨m, by omega, rfl⟩
        · rintro ⟨j, hj, e⟩
          rcases Nat.lt_or_ge j m with h' | h'
          · exact .inl ⟨j, h', e⟩
          · obtain rfl : j = m := by omega
            exact .inr e.symm
    · rw [if_neg hk, List.append_nil]
      unfold Lib.keeps at hk
      rw [decide_eq_true_iff] at hk
      have h0 : m ≠ 0 := fun e => hk (.inl e)
      have e1 : d[m]! = d[m - 1]! := Classical.byContradiction fun e => hk (.inr e)
      refine ⟨h1, fun x hx => ⟨by omega, ?_⟩, fun x => ?_⟩
      · show x ≤ d[m]!
        have := (h2 x hx).2; omega
      · rw [h3]
        constructor
        · rintro ⟨j, hj, e⟩; exact ⟨j, by omega, e⟩
        · rintro ⟨j, hj, e⟩
          rcases Nat.lt_or_ge j m with h' | h'
          · exact ⟨j, h', e⟩
          · obtain rfl : j = m := by omega
            exact ⟨j - 1, by omega, by rw [← e1]; exact e⟩
theorem comp_sort (xs : List Int) : (Lib.compact (xs.mergeSort fun x y => decide (x ≤ y))).Pairwise (· < ·) ∧ ∀ x, x ∈ Lib.compact (xs.mergeSort fun x y => decide (x ≤ y)) ↔ x ∈ xs := by
  have hp := List.pairwise_mergeSort (le := fun x y : Int => decide (x ≤ y)) (fun a b c h1 h2 => by simp at *; omega) (fun a b => by simp; omega) xs
  have hm : ∀ x, x ∈ xs.mergeSort (fun x y => decide (x ≤ y)) ↔ x ∈ xs := fun x => List.mem_mergeSort
  generalize xs.mergeSort (fun x y => decide (x ≤ y)) = zs at hp hm ⊢
  have get : ∀ i, i < zs.length → zs.toArray[i]! = zs[i]! := fun i hi => by simp
  obtain ⟨h1, -, h3⟩ := comp_sorted (d := zs.toArray) (fun i j hij hj => by
    have hj' : j < zs.length := by simpa using hj
    rcases Nat.lt_or_ge i j with h | h
    · have := List.pairwise_iff_getElem.1 hp i j (by omega) hj' h
      simp only [List.getElem!_toArray]
      rw [getElem!_pos zs i (by omega), getElem!_pos zs j hj']
      simpa using this
    · obtain rfl : i = j := by omega
      exact Int.le_refl _) zs.length (by simp)
  refine ⟨h1, fun x => ?_⟩
  rw [← hm]
  show x ∈ Lib.compactUpTo zs.toArray zs.length ↔ _
  rw [h3, List.mem_iff_getElem]
  constructor
  · rintro ⟨j, hj, e⟩
    exact ⟨j, hj, by rw [← e]; simp only [List.getElem!_toArray]; rw [getElem!_pos zs j hj]⟩
  · rintro ⟨j, hj, e⟩
    exact ⟨j, hj, by rw [← e]; simp only [List.getElem!_toArray]; rw [getElem!_pos zs j hj]⟩
section
variable {α : Type}
def keysM (l : List (Int × α)) : List Int := l.map (·.1)
theorem mfind_spec {n : Int} : ∀ {l : List (Int × α)} {i : Nat}, (∀ j v, mfind n l i = some (j, v) → i ≤ j ∧ l[j - i]? = some (n, v)) ∧ (mfind n l i = none ↔ n ∉ keysM l)
  | [], i => by simp [mfind, keysM]
  | (k, v) :: l, i => by
    have ih := mfind_spec (n := n) (l := l) (i := i + 1)
    by_cases h : n = k
    · subst h
      simp only [mfind, beq_self_eq_true, cond_true]
      refine ⟨fun j w e => ?_, by simp [keysM]⟩
      injection e with e
      injection e with e1 e2
      subst e1 e2
      simp
    · have hb : (n == k) = false := by simpa using h
      simp only [mfind, hb, cond_false]
      refine ⟨fun j w e => ?_, ?_⟩
      · obtain ⟨h1, h2⟩ := ih.1 j w e
        refine ⟨by omega, ?_⟩
        rw [show j - i = (j - (i + 1)) + 1 by omega, List.getElem?_cons_succ]
        exact h2
      · rw [ih.2]; simp [keysM, h]
theorem mget_key {n : Int} : ∀ {l : List (Int × α)}, (mget n l = none ↔ n ∉ keysM l)
  | [] => by simp [mget, keysM]
  | (k, v) :: l => by
    have ih := mget_key (n := n) (l := l)
    by_cases h : n = k
    · subst h; simp [mget, keysM]
    · have hb : (n == k) = false := by simpa using h
      simp only [mget, hb, cond_false, ih]
      simp [keysM, h]
theorem mget_app {n k : Int} {v : α} : ∀ {l : List (Int × α)}, mget n (l ++ [(k, v)]) = match mget n l with | some x => some x | none => if n = k then some v else none
  | [] => by
    by_cases h : n = k
    · subst h; simp [mget]
    · have hb : (n == k) = false := by simpa using h
      simp [mget, hb, h]
  | (q, w) :: l => by
    have ih := mget_app (n := n) (k := k) (v := v) (l := l)
    simp only [List.cons_append, mget]
    cases n == q with
    | true => rfl
    | false => simpa using ih
theorem mget_set {n k : Int} {v : α} : ∀ {l : List (Int × α)} {j : Nat} {x : α}, l[j]? = some (k, x) → (keysM l).Nodup → mget n (l.set j (k, v)) = if n = k then some v else mget n l
  | [], j, x, h, _ => by simp at h
  | (q, w) :: l, 0, x, h, hn => by
    simp only [List.getElem?_cons_zero, Option.some.injEq, Prod.mk.injEq] at h
    obtain ⟨rfl, rfl⟩ := h
    by_cases e : n = q
    · subst e; simp [mget]
    · have hb : (n == q) = false := by simpa using e
      simp [mget, hb, e]
  | (q, w) :: l, j + 1, x, h, hn => by
    rw [List.getElem?_cons_succ] at h
    have hq : q ∉ keysM l ∧ (keysM l).Nodup := by simpa [keysM] using hn
    have ih := mget_set (n := n) (v := v) h hq.2
    simp only [List.set_cons_succ, mget]
    by_cases e : n = q
    · subst e
      have hk : k ∈ keysM l := List.mem_map.2 ⟨_, List.mem_of_getElem? h, rfl⟩
      have : n ≠ k := fun e => hq.1 (e ▸ hk)
      simp [this]
    · have hb : (n == q) = false := by simpa using e
      simp only [hb, cond_false]
      exact ih
theorem mput_keys {k : Int} {v : α} {l : List (Int × α)} : keysM (mput k v l) = if k ∈ keysM l then keysM l else keysM l ++ [k] := by
  unfold mput
  obtain ⟨h1, h2⟩ := mfind_spec (n := k) (l := l) (i := 0)
  cases hm : mfind k l 0 with
  | none => rw [if_neg (h2.1 hm)]; simp [keysM]
  | some p =>
    obtain ⟨j, w⟩ := p
    obtain ⟨-, h⟩ := h1 j w hm
    rw [Nat.sub_zero] at h
    have hk : k ∈ keysM l := List.mem_map.2 ⟨_, List.mem_of_getElem? h, rfl⟩
    rw [if_pos hk]
    show (l.set j (k, v)).map (·.1) = l.map (·.1)
    rw [List.map_set]
    apply List.ext_getElem?
    intro i
    rw [List.getElem?_set]
    split
    · next e =>
      subst e
      split
      · rw [List.getElem?_map, h]; rfl
      · next hh => rw [List.getElem?_eq_none (by omega)]
    · rfl
theorem mput_nodup {k : Int} {v : α} {l : List (Int × α)} (h : (keysM l).Nodup) : (keysM (mput k v l)).Nodup := by
  rw [mput_keys]
  split
  · exact h
  · next hk =>
    rw [List.nodup_append]
    exact ⟨h, by simp, fun a ha b hb => by simp at hb; subst hb; exact fun e => hk (e ▸ ha)⟩
theorem mget_mput {n k : Int} {v : α} {l : List (Int × α)} (h : (keysM l).Nodup) : mget n (mput k v l) = if n = k then some v else mget n l := by
  unfold mput
  obtain ⟨h1, h2⟩ := mfind_spec (n := k) (l := l) (i := 0)
  cases hm : mfind k l 0 with
  | none =>
    have hk := h2.1 hm
    show mget n (l ++ [(k, v)]) = _
    rw [mget_app]
    by_cases e : n = k
    · subst e
      rw [mget_key.2 hk]
    · cases hg : mget n l <;> simp [e]
  | some p =>
    obtain ⟨j, w⟩ := p
    obtain ⟨-, h'⟩ := h1 j w hm
    rw [Nat.sub_zero] at h'
    exact mget_set h' h
end
end Go.Proofs.Ytengafkfgcdpeaa
end

/- Layer 11, plainly: what the rows for anchors and used options say. -/
section
namespace Go.Proofs.Ytengafkfgcdpeaa
set_option linter.unusedVariables false
set_option linter.unusedSimpArgs false
set_option linter.unnecessarySimpa false
set_option linter.unusedSectionVars false
set_option maxRecDepth 10000
open Go.RowKit
theorem unit_nth {n i : Nat} {a : Int} (h : i < n) : nth (unitCo n a) i = if a.toNat = i then 1 else 0 := by
  simp only [unitCo, nth, List.getD_eq_getElem?_getD, List.getElem?_set, List.length_replicate, List.getElem?_replicate]
  by_cases e : a.toNat = i
  · simp [e, h]
  · simp [e, h]
theorem unit_sum {n : Nat} {a : Int} (ha : 0 ≤ a) : ∀ {d : List Int} {lo : Nat}, Asc lo n d → sumOf (unitCo n a) d = if a ∈ d then 1 else 0
  | [], lo, h => by simp [sumOf_nil]
  | x :: d, lo, h => by
    have hp := List.pairwise_cons.1 h.1
    have hx := h.2 x (by simp)
    have ih := unit_sum (n := n) (a := a) ha (d := d) (lo := lo) ⟨hp.2, fun y hy => h.2 y (by simp [hy])⟩
    rw [sumOf_cons, ih, unit_nth (by omega)]
    by_cases e : a = x
    · subst e
      have : a ∉ d := fun hm => by have := hp.1 a hm; omega
      simp [this]
    · have e' : ¬ a.toNat = x.toNat := by omega
      simp [e, e']
theorem meet_unit {n : Nat} {a v : Int} (ha : 0 ≤ a) {d : List Int} {lo : Nat} (h : Asc lo n d) : meetB d (unitRow n a v) = decide ((if a ∈ d then 1 else 0) = v) := by
  unfold meetB unitRow
  simp only
  rw [unit_sum ha h]
  rw [Bool.eq_iff_iff, Bool.and_eq_true, decide_eq_true_iff, decide_eq_true_iff, decide_eq_true_iff]
  omega
theorem choice_pos {ch : List Int} {n : Nat} (h : choiceB ch n = true) {x : Int} (hx : x ∈ ch) : 0 ≤ x ∧ x < n := by
  obtain ⟨k, hk⟩ := List.getElem?_of_mem hx
  exact choice_elt h hk
theorem free_mem {an us : List Int} {x : Int} : x ∈ freeL an us ↔ x ∈ us ∧ x ∉ an := by
  simp only [freeL, List.mem_filter, hasB, Bool.not_eq_true', List.any_eq_false]
  constructor
  · rintro ⟨h1, h2⟩; exact ⟨h1, fun hm => by simpa using h2 x hm⟩
  · rintro ⟨h1, h2⟩; exact ⟨h1, fun y hy e => h2 (by rw [← show y = x from by simpa using e]; exact hy)⟩
/-- The rows of the restricted program say: the program's rows, all anchors, no other used option. -/
theorem res_met {P : Prog} {an us d : List Int} {lo : Nat} (ha : choiceB an P.costs.length = true) (hu : choiceB us P.costs.length = true) (hd : Asc lo P.costs.length d) : (resRows P an us).all (meetB d) = true ↔ P.rows.all (meetB d) = true ∧ (∀ a ∈ an, a ∈ d) ∧ ∀ u ∈ us, u ∉ an → u ∉ d := by
  unfold resRows
  rw [List.all_append, List.all_append, Bool.and_eq_true, Bool.and_eq_true, and_assoc]
  refine and_congr Iff.rfl (and_congr ?_ ?_)
  · rw [List.all_map, List.all_eq_true]
    refine forall_congr' fun a => ?_
    constructor
    · intro h hm
      have := h hm
      rw [Function.comp, meet_unit (choice_pos ha hm).1 hd, decide_eq_true_iff] at this
      by_cases e : a ∈ d
      · exact e
      · rw [if_neg e] at this; omega
    · intro h hm
      rw [Function.comp, meet_unit (choice_pos ha hm).1 hd, decide_eq_true_iff, if_pos (h hm)]
  · rw [List.all_map, List.all_eq_true]
    refine forall_congr' fun a => ?_
    constructor
    · intro h hm hn e
      have := h (free_mem.2 ⟨hm, hn⟩)
      rw [Function.comp, meet_unit (choice_pos hu hm).1 hd, decide_eq_true_iff, if_pos e] at this
      omega
    · intro h hm
      obtain ⟨h1, h2⟩ := free_mem.1 hm
      rw [Function.comp, meet_unit (choice_pos hu h1).1 hd, decide_eq_true_iff, if_neg (h h1 h2)]
theorem unit_rowB {n : Nat} {a v : Int} (hv : -1 ≤ v ∧ v ≤ 1) : rowB n (unitRow n a v) = true := by
  simp only [rowB, unitRow, Bool.and_eq_true, decide_eq_true_eq]
  refine ⟨⟨⟨by simp [unitCo], ?_⟩, by rw [boundB_iff]; omega⟩, by rw [boundB_iff]; omega⟩
  rw [validCoefsB, List.all_eq_true]
  intro x hx
  rw [coefB_iff]
  unfold unitCo at hx
  rcases List.mem_or_eq_of_mem_set hx with h | h
  · have := List.eq_of_mem_replicate h; omega
  · omega
theorem res_valid {P : Prog} {an us : List Int} (hv : validB P = true) (hl : (resRows P an us).length ≤ 60) : validB ⟨P.costs, resRows P an us⟩ = true := by
  have h := validB_parts hv
  simp only [validB, Bool.and_eq_true, decide_eq_true_eq]
  refine ⟨⟨⟨by first | exact h.1 | exact decide_eq_true h.1, hl⟩, h.2.2.1⟩, ?_⟩
  unfold resRows
  rw [List.all_append, List.all_append, Bool.and_eq_true, Bool.and_eq_true]
  refine ⟨⟨h.2.2.2, ?_⟩, ?_⟩
  · rw [List.all_map, List.all_eq_true]
    exact fun a _ => unit_rowB (by omega)
  · rw [List.all_map, List.all_eq_true]
    exact fun a _ => unit_rowB (by omega)
theorem resE_zero {P : Prog} {an us : List Int} (h : resE P an us = 0) : validB P = true ∧ choiceB an P.costs.length = true ∧ choiceB us P.costs.length = true ∧ (resRows P an us).length ≤ 60 := by
  unfold resE at h
  split at h
  · omega
  · next h1 =>
    split at h
    · omega
    · next h2 =>
      split at h
      · omega
      · next h3 =>
        refine ⟨by simpa using h1, ?_, ?_, by omega⟩
        · cases hc : choiceB an P.costs.length with
          | true => rfl
          | false => exact absurd (.inl hc) h2
        · cases hc : choiceB us P.costs.length with
          | true => rfl
          | false => exact absurd (.inr hc) h2
/-! the used options, in order -/
def usedL (n : Nat) (us : List Int) : List Int := ((List.range n).filter fun i : Nat => hasB us (i : Int)).map fun i : Nat => (i : Int)
theorem usedL_mem {n : Nat} {us : List Int} {x : Int} : x ∈ usedL n us ↔ x ∈ us ∧ 0 ≤ x ∧ x < n := by
  simp only [usedL, List.mem_map, List.mem_filter, List.mem_range]
  constructor
  · rintro ⟨i, ⟨h1, h2⟩, rfl⟩
    exact ⟨hasB_iff.1 h2, by omega, by omega⟩
  · rintro ⟨h1, h2, h3⟩
    exact ⟨x.toNat, ⟨by omega, hasB_iff.2 (by rw [show ((x.toNat : Nat) : Int) = x by omega]; exact h1)⟩, by omega⟩
theorem usedL_asc {n : Nat} {us : List Int} : Asc 0 n (usedL n us) := by
  refine ⟨?_, fun x hx => by have := usedL_mem.1 hx; omega⟩
  unfold usedL
  rw [List.pairwise_map]
  refine List.Pairwise.filter _ ?_
  exact List.pairwise_lt_range.imp fun h => by omega
theorem used_sort {n : Nat} {us ch : List Int} (h : ∀ x ∈ us ++ ch, 0 ≤ x ∧ x < n) : Lib.compact ((us ++ ch).mergeSort fun x y => decide (x ≤ y)) = usedL n (us ++ ch) := by
  obtain ⟨h1, h2⟩ := comp_sort (us ++ ch)
  refine asc_ext (lo := 0) (hi := n) ⟨h1, fun x hx => ?_⟩ usedL_asc fun x => ?_
  · have := h x ((h2 x).1 hx); omega
  · rw [h2, usedL_mem]
    exact ⟨fun hx => ⟨hx, h x hx⟩, fun hx => hx.1⟩
end Go.Proofs.Ytengafkfgcdpeaa
end

/- Slices of the function's own are sorted or turned round: the shelf's contracts in the interpreter's words. -/
section
namespace Go.Proofs.Ytengafkfgcdpeaa
set_option linter.unusedVariables false
set_option linter.unusedSimpArgs false
set_option linter.unnecessarySimpa false
set_option linter.unusedSectionVars false
set_option maxRecDepth 10000
open Go.RowKit Go.Shelf Go.Sort
section
variable {P : Program} {tt : Nat} {b : Bool} {f : Nat}
theorem ints_css {w : World} {X : Nat → Prop} : ∀ {xs : List Int} {css : List (List Value)}, All2 (fun ds cs => ds.length = 1 ∧ All2 (RepV w X) ds cs) (xs.map encI) css → css = xs.map fun x => [Value.int .i64 x]
  | [], [], _ => rfl
  | x :: xs, c :: css, h => by
    obtain ⟨h1, h2⟩ := h
    have e := ints_css h2
    obtain ⟨u, us, rfl, h3, h4⟩ := h1.2.cons_inv
    obtain rfl := h4.nil_inv
    cases h3
    rw [e]; rfl
  | [], _ :: _, h => h.elim
  | _ :: _, [], h => h.elim
theorem css_ints {w : World} {X : Nat → Prop} : ∀ {xs : List Int}, All2 (fun ds cs => ds.length = 1 ∧ All2 (RepV w X) ds cs) (xs.map encI) (xs.map fun x => [Value.int .i64 x])
  | [] => trivial
  | x :: xs => ⟨⟨rfl, .int _ _, trivial⟩, css_ints⟩
theorem flat1 {α β : Type} (g : α → β) : ∀ xs : List α, (xs.map fun x => [g x]).flatten = xs.map g
  | [] => rfl
  | x :: xs => by simp [flat1 g xs]
theorem put_take (cur : Array Value) (ys : List Int) (h : ys.length ≤ cur.size) : (cur.toList.take (0 * 1) ++ (ys.map fun x => [Value.int .i64 x]).flatten ++ cur.toList.drop (0 * 1 + (ys.map fun x => [Value.int .i64 x]).flatten.length)).toArray = putCells (Value.int .i64) 0 ys.toArray cur := by
  apply Array.ext'
  simp only [flat1, Nat.zero_mul, List.take_zero, List.nil_append, Nat.zero_add, List.length_map]
  apply List.ext_getElem?
  intro j
  refine Eq.trans ?_ Array.getElem?_toList.symm
  show (ys.map (Value.int .i64) ++ cur.toList.drop ys.length)[j]? = _
  by_cases hj : j < ys.length
  · rw [List.getElem?_append_left (by simpa using hj)]
    simp [putCells, hj, show j < cur.size by omega]
  · rw [List.getElem?_append_right (by simpa using hj)]
    simp [putCells, hj, List.getElem?_drop, show ys.length + (j - ys.length) = j by omega]
/-- A function that lays other numbers into a slice of numbers. -/
theorem refill_ok (hent : Enters P f) (xs ys : List Int) (hl : ys.length = xs.length) (E : Nat)
    (hcall : ∀ (w : World) (g cap : Nat), Holds (Value.int .i64) w g 0 xs.toArray → g < w.heap.size → Calls P f #[.slice (some ⟨g, 0, none⟩) xs.length cap] w fun e w' => e = .returned (.tuple #[]) ∧ ∃ n os, w' = grow (putRow (Value.int .i64) (Sort.ahead w n) g 0 ys.toArray) os)
    (hnil : ∀ (w : World), Calls P f #[.slice none 0 0] w fun e w' => e = .returned (.tuple #[]) ∧ w' = w) :
    GoodM P tt b f [.own 0 E 1 (xs.map encI)] [] (fun r ov bx' => r = .tup [] ∧ ov = [(1000, .own 0 E 1 (ys.map encI))] ∧ bx' = []) := by
  refine ⟨hent, fun w0 G us S hA => ?_⟩
  obtain ⟨u, us', rfl, h1, h2⟩ := hA.cons_inv
  obtain rfl := h2.nil_inv
  obtain ⟨hT, css, ho, hcs⟩ := (show RC w0.B G w0.toWorld (.own 0 E 1 (xs.map encI)) u from h1)
  obtain rfl := ints_css hcs
  rcases ho.2 with ⟨rfl, h0⟩ | ⟨g, cap, cur, rfl, hg, hh, hc, hm, hsz, ht⟩
  · have hx : xs = [] := List.eq_nil_of_length_eq_zero (by simpa using h0)
    subst hx
    have hy : ys = [] := List.eq_nil_of_length_eq_zero (by simpa using hl)
    subst hy
    refine (hnil _).mono ?_
    rintro e w' ⟨rfl, rfl⟩
    exact ⟨_, .tup [], _, [], G, rfl, ⟨rfl, rfl, rfl⟩, S, ⟨[], rfl, trivial⟩⟩
  · have hlen : (xs.map encI).length = xs.length := List.length_map ..
    rw [hlen] at hc ht ⊢
    rw [Nat.mul_one, flat1] at ht
    have hlt : g < w0.toWorld.heap.size := (Array.getElem?_eq_some_iff.1 hh).1
    have hcur : ys.length ≤ cur.size := by omega
    refine (hcall _ g cap (holds_of_blockI hh ht) hlt).mono ?_
    rintro e w' ⟨rfl, n, os, rfl⟩
    have S1 := S.copyOwn (src := ys.map encI) (dss := ys.map fun x => [Value.int .i64 x]) (lo := 0) (z := 1) (T := 0) (n := (xs.map encI).length) hT hh (by simp [hl]) (by simp; omega) css_ints
    rw [put_take cur ys hcur] at S1
    have S2 := S1.world (w' := grow (putRow (Value.int .i64) (Sort.ahead w0.toWorld n) g 0 ys.toArray) os) ?sz ?bl ?ch
    case sz => simp [World.setRow, grow, putRow, mapBlock, Sort.ahead]
    case bl =>
      intro k hk
      by_cases hkg : k = g
      · subst hkg
        rw [heap_sortedI _ hh, setRow_heap _ _ _ _ _ _ hh]
      · rw [setRow_other _ _ _ _ hkg]
        have := (grownBy_sortedI (w := w0.toWorld) (g := g) (n := n) (os := os) ys.toArray).block k (by simpa [World.setRow] using hk) (by simpa using hkg)
        exact this
    case ch =>
      refine S.chg.grown (row := some g) (grownBy_sortedI _) fun k hk => ?_
      injection hk with hk
      subst hk
      rcases (S.ownLt 0 _ g hT rfl).1 with h | h
      · exact .inr h
      · exact .inl (.inr h)
    refine ⟨_, .tup [], [(1000, .own 0 E 1 (ys.map encI))], [], G, rfl, ⟨rfl, rfl, rfl⟩, ?_, ⟨[], rfl, trivial⟩⟩
    have e : spl (xs.map encI) 0 (ys.map encI) = ys.map encI := by simp [spl, hl]
    refine { S2 with slot := fun i => ?_, box := fun t cs h => by cases h }
    by_cases hi : i = 1000
    · subst hi
      have := S2.slot 1000
      rw [show ((mkSt (ovOf 1000 [AV.own 0 E 1 (xs.map encI)]) [] b).map (copyF 0 1 0 (ys.map encI))).slot 1000 = .own 0 E 1 (spl (xs.map encI) 0 (ys.map encI)) from rfl, e] at this
      exact this
    · rw [show (mkSt [(1000, AV.own 0 E 1 (ys.map encI))] [] b).slot i = .undef from by simp [mkSt, lk, beq_ne hi]]
      trivial
/-- A function that lays fewer numbers into a slice of numbers and returns that part. -/
theorem shrink_ok (hent : Enters P f) (xs ys : List Int) (hl : ys.length ≤ xs.length) (E : Nat)
    (hcall : ∀ (w : World) (g cap : Nat), Holds (Value.int .i64) w g 0 xs.toArray → g < w.heap.size → xs.length ≤ cap → Calls P f #[.slice (some ⟨g, 0, none⟩) xs.length cap] w fun e w' => e = .returned (.slice (some ⟨g, 0, none⟩) ys.length cap) ∧ ∃ n os, w' = grow (putRow (Value.int .i64) (Sort.ahead w n) g 0 (ys ++ List.replicate (xs.length - ys.length) 0).toArray) os)
    (hnil : ∀ (w : World), Calls P f #[.slice none 0 0] w fun e w' => e = .returned (.slice none 0 0) ∧ w' = w) :
    GoodM P tt b f [.own 0 E 1 (xs.map encI)] [] (fun r ov bx' => r = .own 0 E 1 (ys.map encI) ∧ ov = [] ∧ bx' = []) := by
  generalize hzs : ys ++ List.replicate (xs.length - ys.length) 0 = zs at hcall
  have hzl : zs.length = xs.length := by rw [← hzs]; simp; omega
  have hzt : zs.take ys.length = ys := by rw [← hzs]; simp
  refine ⟨hent, fun w0 G us S hA => ?_⟩
  obtain ⟨u, us', rfl, h1, h2⟩ := hA.cons_inv
  obtain rfl := h2.nil_inv
  obtain ⟨hT, css, ho, hcs⟩ := (show RC w0.B G w0.toWorld (.own 0 E 1 (xs.map encI)) u from h1)
  obtain rfl := ints_css hcs
  have hS0 : ∀ {s : St} {G : Gh} {w' : World}, Sim tt w0 G s a0 w' → s.tp = b → Sim tt w0 G (mkSt [] [] b) a0 w' := fun {s G w'} S' hb => by
    subst hb
    exact { S' with slot := fun i => trivial, box := fun t cs h => by cases h }
  rcases ho.2 with ⟨rfl, h0⟩ | ⟨g, cap, cur, rfl, hg, hh, hc, hm, hsz, ht⟩
  · have hx : xs = [] := List.eq_nil_of_length_eq_zero (by simpa using h0)
    subst hx
    have hy : ys = [] := List.eq_nil_of_length_eq_zero (by simpa using hl)
    subst hy
    refine (hnil _).mono ?_
    rintro e w' ⟨rfl, rfl⟩
    exact ⟨_, .own 0 E 1 [], [], [], G, rfl, ⟨rfl, rfl, rfl⟩, hS0 S rfl, h1⟩
  · have hlen : (xs.map encI).length = xs.length := List.length_map ..
    rw [hlen] at hc ht ⊢
    rw [Nat.mul_one, flat1] at ht
    have hlt : g < w0.toWorld.heap.size := (Array.getElem?_eq_some_iff.1 hh).1
    have hcur : zs.length ≤ cur.size := by omega
    refine (hcall _ g cap (holds_of_blockI hh ht) hlt hc).mono ?_
    rintro e w' ⟨rfl, n, os, rfl⟩
    have S1 := S.copyOwn (src := zs.map encI) (dss := zs.map fun x => [Value.int .i64 x]) (lo := 0) (z := 1) (T := 0) (n := (xs.map encI).length) hT hh (by simp [hzl]) (by simp; omega) css_ints
    rw [put_take cur zs hcur] at S1
    have S2 := S1.world (w' := grow (putRow (Value.int .i64) (Sort.ahead w0.toWorld n) g 0 zs.toArray) os) ?sz ?bl ?ch
    case sz => simp [World.setRow, grow, putRow, mapBlock, Sort.ahead]
    case bl =>
      intro k hk
      by_cases hkg : k = g
      · subst hkg
        rw [heap_sortedI _ hh, setRow_heap _ _ _ _ _ _ hh]
      · rw [setRow_other _ _ _ _ hkg]
        have := (grownBy_sortedI (w := w0.toWorld) (g := g) (n := n) (os := os) zs.toArray).block k (by simpa [World.setRow] using hk) (by simpa using hkg)
        exact this
    case ch =>
      refine S.chg.grown (row := some g) (grownBy_sortedI _) fun k hk => ?_
      injection hk with hk
      subst hk
      rcases (S.ownLt 0 _ g hT rfl).1 with h | h
      · exact .inr h
      · exact .inl (.inr h)
    have e : spl (xs.map encI) 0 (zs.map encI) = zs.map encI := by simp [spl, hzl]
    have hsl := S2.slot 1000
    rw [show ((mkSt (ovOf 1000 [AV.own 0 E 1 (xs.map encI)]) [] b).map (copyF 0 1 0 (zs.map encI))).slot 1000 = .own 0 E 1 (spl (xs.map encI) 0 (zs.map encI)) from rfl, e] at hsl
    obtain ⟨hT2, css2, ho2, hcs2⟩ := (show RC w0.B G _ (.own 0 E 1 (zs.map encI)) _ from hsl)
    rw [hT] at hT2
    injection hT2 with hT2
    rw [← hT2] at ho2
    obtain rfl := ints_css hcs2
    rcases ho2.2 with ⟨e0, _⟩ | ⟨g2, cap2, cur2, eu, k1, k2, k3, k4, k5, k6⟩
    · cases e0
    · simp only [Value.slice.injEq, Option.some.injEq, Addr.mk.injEq, and_true] at eu
      obtain ⟨rfl, -, rfl⟩ := eu
      have S3 := S2.setOwn 0 (.slice (some ⟨g, 0, none⟩) ys.length cap) (Nat.le_refl _) (fun _ _ _ => rfl) (fun b hb' => .inl ⟨_, hT, hb'⟩) S2.chg
      refine ⟨_, .own 0 E 1 (ys.map encI), [], [], { G with own := upd G.own 0 (some (.slice (some ⟨g, 0, none⟩) ys.length cap)) }, rfl, ⟨rfl, rfl, rfl⟩, hS0 S3 rfl, ?_⟩
      have hly : (ys.map encI).length = ys.length := List.length_map ..
      rw [flat1, List.length_map, hzl, Nat.mul_one] at k6
      refine show RC w0.B { G with own := upd G.own 0 (some (.slice (some ⟨g, 0, none⟩) ys.length cap)) } _ (.own 0 E 1 (ys.map encI)) _ from ⟨by simp [upd], ys.map fun x => [Value.int .i64 x], ⟨?_, .inr ⟨g, cap, cur2, by rw [hly], k1, k2, by rw [hly]; omega, k4, k5, ?_⟩⟩, css_ints⟩
      · rw [flat1]; simp
      · rw [flat1, hly, Nat.mul_one]
        have := congrArg (List.take ys.length) k6
        rw [List.take_take, Nat.min_eq_left hl, ← List.map_take, hzt] at this
        exact this
end
end Go.Proofs.Ytengafkfgcdpeaa
end

/- The shelf's contracts laid at this program, in plain text. (Printed by wip/mkshl.py.) -/
section
namespace Go.Proofs.Ytengafkfgcdpeaa
set_option linter.unusedVariables false
set_option maxRecDepth 100000
open Go.Shelf Go.Sort Go.RowKit
def laysSort_ren : Go.Shelf.Ren := ⟨fun | 189 => 53 | 125 => 78 | 257 => 77 | 128 => 105 | 129 => 106 | 294 => 96 | 295 => 97 | 296 => 98 | 297 => 99 | 298 => 100 | 299 => 101 | 216 => 102 | 300 => 103 | 301 => 104 | 328 => 117 | 329 => 118 | 330 => 119 | 331 => 120 | 332 => 121 | 215 => 122 | 343 => 127 | n => n, fun | 28 => 22 | 3 => 3 | 46 => 88 | 0 => 0 | 51 => 139 | 53 => 141 | 4 => 4 | 183 => 133 | 182 => 132 | 131 => 51 | 5 => 5 | 9 => 9 | 218 => 147 | 222 => 151 | 228 => 158 | 229 => 159 | n => n, fun | n => n⟩
theorem laysSort : Lays.n189 Try.prog laysSort_ren := {
  mixed := by kernel_rfl,
  f125 := Try.func78.trans (congrArg some (by kernel_rfl)),
  f128 := Try.func105.trans (congrArg some (by kernel_rfl)),
  f129 := Try.func106.trans (congrArg some (by kernel_rfl)),
  f189 := Try.func53.trans (congrArg some (by kernel_rfl)),
  f215 := Try.func122.trans (congrArg some (by kernel_rfl)),
  f216 := Try.func102.trans (congrArg some (by kernel_rfl)),
  f257 := Try.func77.trans (congrArg some (by kernel_rfl)),
  f294 := Try.func96.trans (congrArg some (by kernel_rfl)),
  f295 := Try.func97.trans (congrArg some (by kernel_rfl)),
  f296 := Try.func98.trans (congrArg some (by kernel_rfl)),
  f297 := Try.func99.trans (congrArg some (by kernel_rfl)),
  f298 := Try.func100.trans (congrArg some (by kernel_rfl)),
  f299 := Try.func101.trans (congrArg some (by kernel_rfl)),
  f300 := Try.func103.trans (congrArg some (by kernel_rfl)),
  f301 := Try.func104.trans (congrArg some (by kernel_rfl)),
  f328 := Try.func117.trans (congrArg some (by kernel_rfl)),
  f329 := Try.func118.trans (congrArg some (by kernel_rfl)),
  f330 := Try.func119.trans (congrArg some (by kernel_rfl)),
  f331 := Try.func120.trans (congrArg some (by kernel_rfl)),
  f332 := Try.func121.trans (congrArg some (by kernel_rfl)),
  f343 := Try.func127.trans (congrArg some (by kernel_rfl)),
  t0 := Try.underlying0,
  a0 := Try.isAgg0,
  z0 := Try.sizeOf0,
  v0 := Try.zeroValue0,
  t3 := Try.underlying3,
  a3 := Try.isAgg3,
  z3 := Try.sizeOf3,
  v3 := Try.zeroValue3,
  t4 := Try.underlying4,
  a4 := Try.isAgg4,
  z4 := Try.sizeOf4,
  v4 := Try.zeroValue4,
  t5 := Try.underlying5,
  a5 := Try.isAgg5,
  z5 := Try.sizeOf5,
  v5 := Try.zeroValue5,
  t9 := Try.underlying9,
  a9 := Try.isAgg9,
  z9 := Try.sizeOf9,
  v9 := Try.zeroValue9,
  t28 := Try.underlying22,
  a28 := Try.isAgg22,
  z28 := Try.sizeOf22,
  v28 := Try.zeroValue22,
  t46 := Try.underlying88,
  a46 := Try.isAgg88,
  z46 := Try.sizeOf88,
  v46 := Try.zeroValue88,
  t51 := Try.underlying139,
  a51 := Try.isAgg139,
  z51 := Try.sizeOf139,
  v51 := Try.zeroValue139,
  t53 := Try.underlying141,
  a53 := Try.isAgg141,
  z53 := Try.sizeOf141,
  v53 := Try.zeroValue141,
  t131 := Try.underlying51,
  a131 := Try.isAgg51,
  z131 := Try.sizeOf51,
  v131 := Try.zeroValue51,
  t182 := Try.underlying132,
  a182 := Try.isAgg132,
  z182 := Try.sizeOf132,
  v182 := Try.zeroValue132,
  t183 := Try.underlying133,
  a183 := Try.isAgg133,
  z183 := Try.sizeOf133,
  v183 := Try.zeroValue133,
  t218 := Try.underlying147,
  a218 := Try.isAgg147,
  z218 := Try.sizeOf147,
  v218 := Try.zeroValue147,
  t222 := Try.underlying151,
  a222 := Try.isAgg151,
  z222 := Try.sizeOf151,
  v222 := Try.zeroValue151,
  t228 := Try.underlying158,
  a228 := Try.isAgg158,
  z228 := Try.sizeOf158,
  v228 := Try.zeroValue158,
  t229 := Try.underlying159,
  a229 := Try.isAgg159,
  z229 := Try.sizeOf159,
  v229 := Try.zeroValue159 }
def laysCpt_ren : Go.Shelf.Ren := ⟨fun | 20 => 54 | n => n, fun | 22 => 22 | 3 => 3 | 4 => 4 | 0 => 0 | n => n, fun | n => n⟩
theorem laysCpt : Lays2.n20 Try.prog laysCpt_ren := {
  mixed := by kernel_rfl,
  f20 := Try.func54.trans (congrArg some (by kernel_rfl)),
  t0 := Try.underlying0,
  a0 := Try.isAgg0,
  z0 := Try.sizeOf0,
  v0 := Try.zeroValue0,
  t3 := Try.underlying3,
  a3 := Try.isAgg3,
  z3 := Try.sizeOf3,
  v3 := Try.zeroValue3,
  t4 := Try.underlying4,
  a4 := Try.isAgg4,
  z4 := Try.sizeOf4,
  v4 := Try.zeroValue4,
  t22 := Try.underlying22,
  a22 := Try.isAgg22,
  z22 := Try.sizeOf22,
  v22 := Try.zeroValue22,
  i3 := by kernel_rfl }
theorem sortI_ok {b : Bool} (xs : List Int) (hl : xs.length ≤ 1000000) : GoodM Try.prog TT b 53 [.own 0 3 1 (xs.map encI)] [] (fun r ov bx' => r = .tup [] ∧ ov = [(1000, .own 0 3 1 ((xs.mergeSort fun x y => decide (x ≤ y)).map encI))] ∧ bx' = []) :=
  refill_ok (enters_of Try.func53 rfl rfl) xs _ (by simp) _ (fun w g cap hH hb => Any.slices_Sort_int laysSort g 0 cap xs w hH hb (by omega)) (fun w => Any.slices_Sort_int_none laysSort none 0 w)
theorem compact_le {xs : List Int} : (Lib.compact xs).length ≤ xs.length := by
  unfold Lib.compact Lib.compactUpTo
  rw [List.length_map]
  exact Nat.le_trans (List.length_filter_le ..) (by simp)
theorem compactI_ok {b : Bool} (xs : List Int) (hl : xs.length ≤ 1000000) : GoodM Try.prog TT b 54 [.own 0 3 1 (xs.map encI)] [] (fun r ov bx' => r = .own 0 3 1 ((Lib.compact xs).map encI) ∧ ov = [] ∧ bx' = []) :=
  shrink_ok (enters_of Try.func54 rfl rfl) xs _ compact_le _ (fun w g cap hH hb hc => (Any.slices_Compact_int laysCpt g 0 cap xs w hH (by omega) hc).mono fun e w' h => ⟨h.1, by obtain ⟨n, hn⟩ := h.2; exact ⟨n, #[], by rw [hn, grow_empty]⟩⟩) (fun w => Any.slices_Compact_int_empty laysCpt none 0 w)
end Go.Proofs.Ytengafkfgcdpeaa
end

/- Layer 11: Assemble of the program. -/
section
namespace Go.Proofs.Ytengafkfgcdpeaa
set_option linter.unusedVariables false
set_option linter.unusedSimpArgs false
set_option linter.unnecessarySimpa false
set_option linter.unusedSectionVars false
set_option maxRecDepth 10000
open Go.RowKit
def encPl (p : Pln) : List AV := [.bool p.found, ints p.chosen, .int .i64 p.cost, ndsV p.nodes]
def bestR (P : Prog) (an us : List Int) : Bool × Int × List Int := bestF ⟨P.costs, resRows P an us⟩
def planR (P : Prog) (an us : List Int) (wn : Bool) : Pln := ⟨true, (bestR P an us).2.2, (bestR P an us).2.1, if wn then certF ⟨P.costs, resRows P an us⟩ true (bestR P an us).2.1 else []⟩
def nextU (P : Prog) (an us : List Int) : List Int := usedL P.costs.length (us ++ (bestR P an us).2.2)
def asmF (P : Prog) (an : List Int) (wn : Bool) : Nat → List Int → List Pln → List Pln × Int
  | 0, us, acc => (acc, 0)
  | m + 1, us, acc => if resE P an us ≠ 0 then ([], resE P an us) else if (bestR P an us).1 = false then ([], 10) else asmF P an wn m (nextU P an us) (acc ++ [planR P an us wn])
def asmP (P : Prog) (an : List Int) (k : Int) (wn : Bool) : List Pln × Int := if validB P = false then ([], 1) else if choiceB an P.costs.length = false ∨ k < 1 ∨ 4 < k then ([], 2) else asmF P an wn k.toNat [] []
def plsV (l : List Pln) : AV := .lst 4 (l.map encPl)
def asmV (P : Prog) (an : List Int) (k : Int) (wn : Bool) : AV := .tup [plsV (asmP P an k wn).1, .int .i64 (asmP P an k wn).2]
theorem asm_err {P : Prog} {an : List Int} {k e : Int} {wn : Bool} (h : asmP P an k wn = ([], e)) : aret (.tup [.nil, .int .i64 e]) (· = asmV P an k wn) :=
  ret_t (rs := [plsV [], .int .i64 e]) ⟨rc_n.g, (rc_p rfl).g, trivial⟩ (by rw [asmV, h])
theorem sortI_at {b : Bool} {xs : List Int} {es : List (List AV)} (he : xs.map encI = es) (hl : xs.length ≤ 1000000) : GoodM Try.prog TT b 53 [.own 0 3 1 es] [] (fun r ov bx' => r = .tup [] ∧ ov = [(1000, .own 0 3 1 ((xs.mergeSort fun x y => decide (x ≤ y)).map encI))] ∧ bx' = []) := he ▸ sortI_ok xs hl
theorem res_fits {P : Prog} {an us : List Int} (hP : Fits P) : Fits (resP P an us) := by
  unfold resP
  split
  · next h =>
    obtain ⟨h1, h2, h3, h4⟩ := resE_zero h
    have hv := res_valid h1 h4
    exact fits_of hv
  · exact ⟨by simp, by simp, by simp⟩
theorem solve_res {P : Prog} {an us : List Int} (h : resE P an us = 0) : Good Try.prog TT false 52 [progV (resP P an us)] (· = .tup [.agg [.bool (bestR P an us).1, ints (bestR P an us).2.2, .int .i64 (bestR P an us).2.1, ndsV (certF ⟨P.costs, resRows P an us⟩ (bestR P an us).1 (bestR P an us).2.1)], .int .i64 0]) := by
  obtain ⟨h1, h2, h3, h4⟩ := resE_zero h
  have hv := res_valid (an := an) (us := us) h1 h4
  have e : resP P an us = ⟨P.costs, resRows P an us⟩ := by rw [resP, if_pos h]
  rw [e]
  have := solve_ok ⟨P.costs, resRows P an us⟩ (fits_of hv)
  rwa [solveV, if_pos hv] at this
theorem solve_res' {P : Prog} {an us : List Int} (h : resE P an us = 0) : Good Try.prog TT false 52 [.agg [ints P.costs, rowsV (resRows P an us)]] (· = .tup [.agg [.bool (bestR P an us).1, ints (bestR P an us).2.2, .int .i64 (bestR P an us).2.1, ndsV (certF ⟨P.costs, resRows P an us⟩ (bestR P an us).1 (bestR P an us).2.1)], .int .i64 0]) := by
  have := solve_res h
  rwa [resP, if_pos h] at this
theorem best_in {P : Prog} {an us : List Int} (h : resE P an us = 0) : (bestR P an us).2.2.length ≤ 12 ∧ ((bestR P an us).1 = true → Asc 0 P.costs.length (bestR P an us).2.2) := by
  obtain ⟨h1, h2, h3, h4⟩ := resE_zero h
  have hv := res_valid (an := an) (us := us) h1 h4
  exact ⟨best_len hv, fun hb => (best_meets hv hb).2.2⟩
theorem asc_len12 {P : Prog} {us : List Int} (hv : validB P = true) (h : Asc 0 P.costs.length us) : us.length ≤ 12 := by
  have := asc_len h; have := (validB_parts hv).1; omega
set_option maxHeartbeats 4000000 in
theorem assemble_ok (P : Prog) (an : List Int) (k : Int) (hP : Fits P) (ha : an.length ≤ 9223372036854775807) : Good Try.prog TT false 25 [progV P, ints an, .int .i64 k] (· = asmV P an k true) := by
  have LC : (P.costs.map encI).length = P.costs.length := List.length_map ..
  refine good_of mixed tabOk Try.func25 rfl rfl Try.ntmps25 Try.results25 rfl rfl ?_
  (conv => whnf); (repeat' (first | (refine arith_i ⟨by omega, by omega⟩ ?_; conv => whnf) | (refine arith_u ⟨by omega, by omega⟩ ?_; conv => whnf) | (refine arith_8 ⟨by omega, by omega⟩ ?_; conv => whnf) | (refine need_i (by first | omega | (simp only [List.length_cons, List.length_nil]; omega) | (simp only [List.length_append, List.length_cons, List.length_nil, List.length_map, List.length_replicate, List.length_modify]; omega)) ?_; conv => whnf) | ((with_reducible refine branch_tt ?_); conv => whnf) | ((with_reducible refine branch_ff ?_); conv => whnf) | (with_reducible refine branch_not ?_) | ((refine call_e (valid_ok P hP.1 hP.2.1 hP.2.2) ?_); conv => whnf) | (((rw [LC]; refine call_e (pChoice_any an P.costs.length ha hP.1) ?_)); conv => whnf) | ((with_reducible refine slc_e ?_); conv => whnf) | ((with_reducible refine callS_a ?_); conv => whnf) | ((with_reducible refine bld_a ?_); conv => whnf) | ((with_reducible refine own_e ?_); conv => whnf) | ((with_reducible refine mkmap_b ?_); conv => whnf) | ((with_reducible refine branch_d (fun hq => ?_) (fun hq => ?_)) <;> (try (exfalso; omega)) <;> (conv => whnf)) | ((with_reducible refine branch_e (fun hq => ?_) (fun hq => ?_)) <;> (try (exfalso; omega)) <;> (conv => whnf)) | ((with_reducible refine branch_n (fun hq => ?_) (fun hq => ?_)) <;> (try (exfalso; omega)) <;> (conv => whnf)) | ((with_reducible refine branch_i (fun hq => ?_) (fun hq => ?_)) <;> (try (exfalso; omega)) <;> (conv => whnf))))
  all_goals first
    | exact asm_err (e := 1) (by rw [asmP, if_pos (by assumption)])
    | exact asm_err (e := 2) (by rw [asmP, if_neg (by simp [*]), if_pos (by simp [*])])
    | exact asm_err (e := 2) (by rw [asmP, if_neg (by simp [*]), if_pos (by omega)])
    | skip
  have hv : validB P = true := by assumption
  have ha2 : choiceB an P.costs.length = true := by assumption
  refine loop_i3 (fun (v : Nat) (us : List Int) (acc : List Pln) => v ≤ k.toNat ∧ Asc 0 P.costs.length us ∧ acc.length = v ∧ asmF P an true (k.toNat - v) us acc = asmF P an true k.toNat [] []) (fun v us acc => mkSt [(1, ints an), (3, .ptr 3 0), (8, .own 901 55 4 (acc.map encPl)), (9, .own 902 3 1 (us.map encI)), (30, .int .i64 k), (31, .int .i64 v)] [(3, [ints P.costs, rowsV P.rows])] false) (fun v _ _ => k.toNat - v) 0 [] [] ⟨Nat.zero_le _, ⟨List.Pairwise.nil, by simp⟩, rfl, rfl⟩ (Le.trans (le_adopt 8 901 55 4 rfl) (Le.trans (le_adopt 9 902 3 1 rfl) (le_mk (by repeat' (first | exact trivial | rfl | apply And.intro)) (by repeat' (first | exact trivial | rfl | apply And.intro)) rfl))) ?_
  rintro v us acc ⟨hvk, hu, hacc, hgo⟩
  have hul := asc_len12 hv hu
  have LU : (us.map encI).length = us.length := List.length_map ..
  have LA : (acc.map encPl).length = acc.length := List.length_map ..
  (conv => whnf); (repeat' (first | (refine arith_i ⟨by omega, by omega⟩ ?_; conv => whnf) | (refine arith_u ⟨by omega, by omega⟩ ?_; conv => whnf) | (refine arith_8 ⟨by omega, by omega⟩ ?_; conv => whnf) | (refine need_i (by first | omega | (simp only [List.length_cons, List.length_nil]; omega) | (simp only [List.length_append, List.length_cons, List.length_nil, List.length_map, List.length_replicate, List.length_modify]; omega)) ?_; conv => whnf) | ((with_reducible refine branch_tt ?_); conv => whnf) | ((with_reducible refine branch_ff ?_); conv => whnf) | (with_reducible refine branch_not ?_) | (((refine mcall_i [] [(0, 902)] _ Le.refl (restrictM_ok P an us hP ha (by omega)) rfl rfl rfl trivial ?_; rintro r ov bx' ⟨hres, rfl, rfl⟩; rcases hres with ⟨hnz, rfl⟩ | ⟨hz, rfl⟩ <;> refine ⟨rfl, ?_⟩ <;> (conv => whnf))); conv => whnf) | (((obtain ⟨hb1, hb2⟩ := best_in hz; have LB : ((bestR P an us).2.2.map encI).length = (bestR P an us).2.2.length := (List.length_map ..); refine call_e (solve_res' hz) ?_)); conv => whnf) | ((refine mcall_e [] [(0, 902)] (sortI_at (xs := us ++ (bestR P an us).2.2) List.map_append (by rw [List.length_append]; omega)) rfl rfl rfl trivial rfl ?_); conv => whnf) | ((refine rcall_e [] [(0, 902)] [] [] (compactI_ok _ (by rw [List.length_mergeSort, List.length_append]; omega)) rfl rfl rfl rfl trivial rfl ?_); conv => whnf) | ((with_reducible refine slc_e ?_); conv => whnf) | ((with_reducible refine callS_a ?_); conv => whnf) | ((with_reducible refine bld_a ?_); conv => whnf) | ((with_reducible refine own_e ?_); conv => whnf) | ((with_reducible refine mkmap_b ?_); conv => whnf) | ((with_reducible refine branch_d (fun hq => ?_) (fun hq => ?_)) <;> (try (exfalso; omega)) <;> (conv => whnf)) | ((with_reducible refine branch_e (fun hq => ?_) (fun hq => ?_)) <;> (try (exfalso; omega)) <;> (conv => whnf)) | ((with_reducible refine branch_n (fun hq => ?_) (fun hq => ?_)) <;> (try (exfalso; omega)) <;> (conv => whnf)) | ((with_reducible refine branch_i (fun hq => ?_) (fun hq => ?_)) <;> (try (exfalso; omega)) <;> (conv => whnf))))
  · refine asm_err (e := resE P an us) ?_
    have hm : k.toNat - v = (k.toNat - v - 1) + 1 := by omega
    rw [asmP, if_neg (by simp [*]), if_neg (by simp [*]), ← hgo, hm, asmF, if_pos hnz]
  · have hf : (bestR P an us).1 = true := by assumption
    have hm : k.toNat - v = (k.toNat - (v + 1)) + 1 := by omega
    have h8 : acc.map encPl ++ [[AV.bool (bestR P an us).1, ints (bestR P an us).2.2, .int .i64 (bestR P an us).2.1, ndsV (certF ⟨P.costs, resRows P an us⟩ (bestR P an us).1 (bestR P an us).2.1)]] = (acc ++ [planR P an us true]).map encPl := by
      rw [hf, List.map_append]; rfl
    have h9 : Lib.compact ((us ++ (bestR P an us).2.2).mergeSort fun x y => decide (x ≤ y)) = nextU P an us := used_sort fun x hx => by
      rcases List.mem_append.1 hx with h | h
      · have := hu.2 x h; omega
      · have := (hb2 hf).2 x h; omega
    refine ⟨v + 1, nextU P an us, acc ++ [planR P an us true], ⟨by omega, usedL_asc, by simp; omega, ?_⟩, le_mk ⟨rfl, rfl, congrArg (AV.own 901 55 4) h8, congrArg (fun x => AV.own 902 3 1 (List.map encI x)) h9, rfl, rfl, trivial⟩ ⟨rfl, trivial⟩ rfl, by omega⟩
    rw [← hgo, hm, asmF, if_neg (by omega), if_neg (by rw [hf]; decide)]
  · have hf : (bestR P an us).1 = false := by assumption
    have hm : k.toNat - v = (k.toNat - (v + 1)) + 1 := by omega
    refine asm_err (e := 10) ?_
    rw [asmP, if_neg (by simp [*]), if_neg (by simp [*]), ← hgo, hm, asmF, if_neg (by omega), if_pos hf]
  · refine ret_t (rs := [plsV acc, .int .i64 0]) ⟨rc_o.g, (rc_p rfl).g, trivial⟩ ?_
    have hm : k.toNat - v = 0 := by omega
    rw [asmV, asmP, if_neg (by simp [*]), if_neg (by simp [*]), ← hgo, hm, asmF]
end Go.Proofs.Ytengafkfgcdpeaa
end
