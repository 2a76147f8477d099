/- Layer 10, plain: the certificate is accepted. -/
import Derived.Test.YtlenfbnoobpdaaaGL10i
import Derived.Test.YtlenfbnoobpdaaaGL09r
namespace Go.Proofs.Ytlenfbnoobpdaaa
set_option linter.unusedVariables false
set_option linter.unusedSimpArgs false
set_option linter.unnecessarySimpa false
set_option linter.unusedSectionVars false
set_option maxRecDepth 10000
open Go.RowKit
/-- Ascending lists with the same elements are equal. -/
theorem asc_ext : ∀ {a b : List Int} {lo hi lo' hi' : Nat}, Asc lo hi a → Asc lo' hi' b → (∀ x, x ∈ a ↔ x ∈ b) → a = b
  | [], [], _, _, _, _, _, _, _ => rfl
  | [], y :: b, _, _, _, _, _, _, h => absurd ((h y).2 (by simp)) (by simp)
  | x :: a, [], _, _, _, _, _, _, h => absurd ((h x).1 (by simp)) (by simp)
  | x :: a, y :: b, lo, hi, lo', hi', ha, hb, h => by
    have pa := List.pairwise_cons.1 ha.1
    have pb := List.pairwise_cons.1 hb.1
    have e : x = y := by
      rcases List.mem_cons.1 ((h x).1 (by simp)) with e | e
      · exact e
      · rcases List.mem_cons.1 ((h y).2 (by simp)) with e' | e'
        · exact e'.symm
        · have h1 := pb.1 x e; have h2 := pa.1 y e'; omega
    subst e
    rw [asc_ext (a := a) (b := b) (lo := lo) (hi := hi) (lo' := lo') (hi' := hi') ⟨pa.2, fun z hz => ha.2 z (by simp [hz])⟩ ⟨pb.2, fun z hz => hb.2 z (by simp [hz])⟩ fun z => ?_]
    constructor
    · intro hz
      rcases List.mem_cons.1 ((h z).1 (by simp [hz])) with e | e
      · have := pa.1 z hz; omega
      · exact e
    · intro hz
      rcases List.mem_cons.1 ((h z).2 (by simp [hz])) with e | e
      · have := pb.1 z hz; omega
      · exact e
/-- The states of the tree's nodes. -/
def stsF (P : Prog) (f : Bool) (b : Int) : Nat → Nat → List Int → List (List Int)
  | 0, o, st => [st]
  | m + 1, o, st => match leafN P f b o st with
    | some _ => [st]
    | none => st :: (stsF P f b m (o + 1) (st.set o 0) ++ stsF P f b m (o + 1) (st.set o 1))
section
variable {P : Prog} {f : Bool} {b : Int}
theorem sts_len : ∀ {m o : Nat} {st : List Int} {base : Nat}, (stsF P f b m o st).length = (treeF P f b m o st base).length
  | 0, o, st, base => rfl
  | m + 1, o, st, base => by
    rw [stsF, treeF]
    cases hlf : leafN P f b o st with
    | some n => rfl
    | none =>
      simp only [List.length_cons, List.length_append]
      rw [sts_len (m := m) (base := base + 1), sts_len (m := m) (st := st.set o 1) (base := base + 1 + (treeF P f b m (o + 1) (st.set o 0) (base + 1)).length)]
theorem sts_leaf {m o : Nat} {st : List Int} {n : Nd} (h : leafN P f b o st = some n) : stsF P f b m o st = [st] := by
  cases m with
  | zero => rfl
  | succ m => simp [stsF, h]
theorem spl_len {α : Type} {L cs : List α} {off : Nat} (h : off + cs.length ≤ L.length) : (spl L off cs).length = L.length := by
  simp [spl]; omega
theorem spl_get {α : Type} {L cs : List α} {off i : Nat} (h : off + cs.length ≤ L.length) : (spl L off cs)[i]? = if i < off then L[i]? else if i < off + cs.length then cs[i - off]? else L[i]? := by
  unfold spl
  by_cases h1 : i < off
  · rw [if_pos h1, List.getElem?_append_left (by simp; omega), List.getElem?_take, if_pos h1]
  · rw [if_neg h1, List.getElem?_append_right (by simp; omega), List.length_take, Nat.min_eq_left (by omega)]
    by_cases h2 : i < off + cs.length
    · rw [if_pos h2, List.getElem?_append_left (by omega)]
    · rw [if_neg h2, List.getElem?_append_right (by omega), List.getElem?_drop]
      congr 1
      omega
theorem spl_one {α : Type} {L : List α} {off : Nat} {x : α} (h : L[off]? = some x) : spl L off [x] = L := by
  have hl := (List.getElem?_eq_some_iff.1 h).1
  refine List.ext_getElem? fun i => ?_
  rw [spl_get (by simp; omega)]
  split
  · rfl
  · split
    · next h1 h2 =>
      simp at h2
      obtain rfl : i = off := by omega
      rw [h, Nat.sub_self]; rfl
    · rfl
theorem leaf_ok {o : Nat} {st : List Int} {n : Nd} (h : leafN P f b o st = some n) : n.kind ≠ 1 ∧ (infB P.rows.length n || bndB P.rows.length n) = true := by
  unfold leafN at h
  split at h
  · next hd =>
    injection h with h
    subst h
    have := (dead_row hd).1
    exact ⟨by show (2 : Int) ≠ 1; omega, by simp [infB, hd, this]⟩
  · split at h
    · injection h with h
      subst h
      exact ⟨by decide, by simp [bndB, plainN]⟩
    · cases h
theorem spl_two {α : Type} {L : List α} {base : Nat} {x y z : α} {us vs : List α} (hx : L[base]? = some x) (h : base + 1 + us.length + vs.length ≤ L.length) (ha : 1 ≤ us.length) :
    spl (spl ((L.set (base + 1) y).set (base + 1 + us.length) z) (base + 1) us) (base + 1 + us.length) vs = (if vs = [] then spl (spl ((L.set (base + 1) y).set (base + 1 + us.length) z) (base + 1) us) (base + 1 + us.length) vs else spl L base (x :: (us ++ vs))) := by
  by_cases hb : vs = []
  · rw [if_pos hb]
  · rw [if_neg hb]
    have hbl : 1 ≤ vs.length := by cases vs with | nil => exact absurd rfl hb | cons => simp
    refine List.ext_getElem? fun i => ?_
    rw [spl_get (by rw [spl_len (by simp; omega)]; simp; omega), spl_get (by simp; omega), spl_get (L := L) (by simp; omega)]
    simp only [List.length_cons, List.length_append, List.getElem?_set, List.length_set]
    by_cases h1 : i < base
    · rw [if_pos (by omega), if_pos (by omega), if_neg (by omega), if_neg (by omega), if_pos h1]
    · by_cases h2 : i = base
      · subst h2
        rw [if_pos (by omega), if_pos (by omega), if_neg (by omega), if_neg (by omega), if_neg (by omega), if_pos (by omega), Nat.sub_self, hx]; rfl
      · by_cases h3 : i < base + 1 + us.length
        · rw [if_pos h3, if_neg (by omega), if_pos h3, if_neg h1, if_pos (by omega), show i - base = (i - (base + 1)) + 1 by omega, List.getElem?_cons_succ, List.getElem?_append_left (by omega)]
        · rw [if_neg h3]
          by_cases h4 : i < base + 1 + us.length + vs.length
          · rw [if_pos h4, if_neg h1, if_pos (by omega), show i - base = (i - (base + 1)) + 1 by omega, List.getElem?_cons_succ, List.getElem?_append_right (by omega)]
            congr 1
            omega
          · rw [if_neg h4, if_neg (by omega), if_neg h3, if_neg (by omega), if_neg (by omega), if_neg h1, if_neg (by omega)]
theorem goS_tree (hv : validB P = true) {N : Nat} : ∀ (m o : Nat) (st : List Int) (base : Nat) (out : List (List Int)) (kn : List Bool) (rest : List Nd), m = P.costs.length - o → o ≤ P.costs.length → st.length = P.costs.length → (∀ j, o ≤ j → j < P.costs.length → nth st j = -1) →
    out.length = N → kn.length = N → base + (treeF P f b m o st base).length ≤ N → kn[base]? = some true → out[base]? = some st → (∀ j, base < j → j < base + (treeF P f b m o st base).length → kn[j]? = some false) →
    goS P.costs.length P.rows.length N base out kn (treeF P f b m o st base ++ rest) = goS P.costs.length P.rows.length N (base + (treeF P f b m o st base).length) (spl out base (stsF P f b m o st)) (spl kn base (List.replicate (treeF P f b m o st base).length true)) rest := by
  intro m
  have leaf : ∀ (m o : Nat) (st : List Int) (base : Nat) (out : List (List Int)) (kn : List Bool) (rest : List Nd) (n : Nd), leafN P f b o st = some n → kn[base]? = some true → out[base]? = some st →
      goS P.costs.length P.rows.length N base out kn (treeF P f b m o st base ++ rest) = goS P.costs.length P.rows.length N (base + (treeF P f b m o st base).length) (spl out base (stsF P f b m o st)) (spl kn base (List.replicate (treeF P f b m o st base).length true)) rest := fun m o st base out kn rest n h hk ho => by
    have hl := leaf_ok h
    rw [tree_leaf h, sts_leaf h, spl_one ho]
    have e := step_leaf (c := P.costs.length) (rows := P.rows.length) (N := N) hk hl.1 (out := out)
    rw [if_pos hl.2] at e
    show goS _ _ _ base out kn (n :: rest) = goS _ _ _ (base + 1) out (spl kn base [true]) rest
    rw [go_some e, spl_one hk]
  induction m with
  | zero =>
    intro o st base out kn rest hm ho hsl hun hol hkl hN hk hout hkf
    obtain ⟨n, hn⟩ : ∃ n, leafN P f b o st = some n := by
      unfold leafN
      split
      · exact ⟨_, rfl⟩
      · rw [if_pos (.inl (by omega))]; exact ⟨_, rfl⟩
    exact leaf 0 o st base out kn rest n hn hk hout
  | succ m ih =>
    intro o st base out kn rest hm ho hsl hun hol hkl hN hk hout hkf
    cases hlf : leafN P f b o st with
    | some n => exact leaf (m + 1) o st base out kn rest n hlf hk hout
    | none =>
      have hto : o < P.costs.length := by omega
      obtain ⟨zt, hzt⟩ : ∃ l, l = treeF P f b m (o + 1) (st.set o 0) (base + 1) := ⟨_, rfl⟩
      obtain ⟨ot, hot⟩ : ∃ l, l = treeF P f b m (o + 1) (st.set o 1) (base + 1 + zt.length) := ⟨_, rfl⟩
      have htree : treeF P f b (m + 1) o st base = ⟨1, o, (base + 1 : Nat), (base + 1 + zt.length : Nat), 0, 0, 0⟩ :: (zt ++ ot) := by rw [treeF, hlf, hot, hzt]
      have hsts : stsF P f b (m + 1) o st = st :: (stsF P f b m (o + 1) (st.set o 0) ++ stsF P f b m (o + 1) (st.set o 1)) := by rw [stsF, hlf]
      have hz1 : 1 ≤ zt.length := by rw [hzt]; exact tree_pos
      have ho1 : 1 ≤ ot.length := by rw [hot]; exact tree_pos
      have hzs : (stsF P f b m (o + 1) (st.set o 0)).length = zt.length := by rw [hzt]; exact sts_len
      have hos : (stsF P f b m (o + 1) (st.set o 1)).length = ot.length := by rw [hot]; exact sts_len
      rw [htree] at hN hkf ⊢
      simp only [List.length_cons, List.length_append] at hN hkf ⊢
      have e := step_br (c := P.costs.length) (rows := P.rows.length) (N := N) (n := ⟨1, o, (base + 1 : Nat), (base + 1 + zt.length : Nat), 0, 0, 0⟩) hk rfl (out := out)
      have k1 := hkf (base + 1) (by omega) (by omega)
      have k2 := hkf (base + 1 + zt.length) (by omega) (by omega)
      rw [if_pos (by
        refine ⟨?_, ?_, ?_, ?_, ?_, ?_, ?_, ?_, ?_, ?_⟩
        · show (base : Int) < ((base + 1 : Nat) : Int); omega
        · show ((base + 1 : Nat) : Int) < N; omega
        · show (base : Int) < ((base + 1 + zt.length : Nat) : Int); omega
        · show ((base + 1 + zt.length : Nat) : Int) < N; omega
        · show ((base + 1 : Nat) : Int) ≠ ((base + 1 + zt.length : Nat) : Int); omega
        · show (0 : Int) ≤ (o : Int); omega
        · show (o : Int) < P.costs.length; omega
        · show kn.getD ((base + 1 : Nat) : Int).toNat false = false; rw [Int.toNat_natCast, getD_some k1]
        · show kn.getD ((base + 1 + zt.length : Nat) : Int).toNat false = false; rw [Int.toNat_natCast, getD_some k2]
        · show nth (out.getD base []) (o : Int).toNat = -1; rw [Int.toNat_natCast, getD_some hout]; exact hun o (Nat.le_refl _) hto)] at e
      simp only [Int.toNat_natCast, getD_some hout] at e
      rw [List.cons_append, go_some e, List.append_assoc]
      have hun' : ∀ x : Int, ∀ j, o + 1 ≤ j → j < P.costs.length → nth (st.set o x) j = -1 := fun x => un_set hun
      have i1 := ih (o + 1) (st.set o 0) (base + 1) ((out.set (base + 1) (st.set o 0)).set (base + 1 + zt.length) (st.set o 1)) ((kn.set (base + 1) true).set (base + 1 + zt.length) true) (ot ++ rest) (by omega) (by omega) (by simp; exact hsl) (hun' 0) (by simp; exact hol) (by simp; exact hkl) (by rw [← hzt]; omega)
        (by rw [List.getElem?_set_ne (by omega), List.getElem?_set_self (by omega)]) (by rw [List.getElem?_set_ne (by omega), List.getElem?_set_self (by omega)]) (fun j h1 h2 => by rw [← hzt] at h2; rw [List.getElem?_set_ne (by omega), List.getElem?_set_ne (by omega)]; exact hkf j (by omega) (by omega))
      rw [← hzt] at i1
      rw [i1]
      have L1 : ((out.set (base + 1) (st.set o 0)).set (base + 1 + zt.length) (st.set o 1)).length = N := by simp; exact hol
      have L2 : ((kn.set (base + 1) true).set (base + 1 + zt.length) true).length = N := by simp; exact hkl
      have i2 := ih (o + 1) (st.set o 1) (base + 1 + zt.length) (spl ((out.set (base + 1) (st.set o 0)).set (base + 1 + zt.length) (st.set o 1)) (base + 1) (stsF P f b m (o + 1) (st.set o 0))) (spl ((kn.set (base + 1) true).set (base + 1 + zt.length) true) (base + 1) (List.replicate zt.length true)) rest (by omega) (by omega) (by simp; exact hsl) (hun' 1)
        (by rw [spl_len (by rw [L1]; omega), L1]) (by rw [spl_len (by rw [L2]; simp; omega), L2]) (by rw [← hot]; omega)
        (by rw [spl_get (by rw [L2]; simp; omega), if_neg (by omega), if_neg (by simp), List.getElem?_set_self (by simp; omega)])
        (by rw [spl_get (by rw [L1]; omega), if_neg (by omega), if_neg (by omega), List.getElem?_set_self (by simp; omega)])
        (fun j h1 h2 => by
          rw [← hot] at h2
          rw [spl_get (by rw [L2]; simp; omega), if_neg (by omega), if_neg (by simp; omega), List.getElem?_set_ne (by omega), List.getElem?_set_ne (by omega)]
          exact hkf j (by omega) (by omega))
      rw [← hot] at i2
      rw [i2]
      have q1 := spl_two (L := out) (base := base) (x := st) (y := st.set o 0) (z := st.set o 1) (us := stsF P f b m (o + 1) (st.set o 0)) (vs := stsF P f b m (o + 1) (st.set o 1)) hout (by omega) (by omega)
      rw [if_neg (fun h => by rw [h] at hos; simp at hos; omega), hzs] at q1
      have q2 := spl_two (L := kn) (base := base) (x := true) (y := true) (z := true) (us := List.replicate zt.length true) (vs := List.replicate ot.length true) hk (by simp; omega) (by simp; omega)
      rw [if_neg (fun h => by have := congrArg List.length h; rw [List.length_replicate, List.length_nil] at this; omega)] at q2
      simp only [List.length_replicate] at q2
      rw [q1, q2, hsts]
      congr 1
      · omega
      · rw [List.replicate_succ, List.replicate_append_replicate]
def NodeP (P : Prog) (f : Bool) (b : Int) (n : Nd) (s : List Int) : Prop := n.kind = 1 ∨ (0 ≤ deadF P s ∧ n = ⟨2, 0, 0, 0, deadF P s, 0, 0⟩) ∨ (deadF P s < 0 ∧ n = plainN ∧ stOB s P.costs.length = true ∧ ((∀ x ∈ s, x ≠ -1) ∨ (f = true ∧ b ≤ boundF P s plainN)))
theorem leaf_P {o : Nat} {st : List Int} {n : Nd} (hst : stOB st P.costs.length = true) (hdec : ∀ j, j < o → nth st j ≠ -1) (h : leafN P f b o st = some n) : NodeP P f b n st := by
  unfold leafN at h
  split at h
  · next hd =>
    injection h with h
    exact .inr (.inl ⟨hd, h.symm⟩)
  · next hd =>
    split at h
    · next hor =>
      injection h with h
      refine .inr (.inr ⟨by omega, h.symm, hst, ?_⟩)
      rcases hor with ho | ho
      · left
        intro x hx
        obtain ⟨i, hi, e⟩ := mem_nth hx
        rw [← e]
        exact hdec i (by omega)
      · exact .inr ho
    · cases h
theorem tree_nodes : ∀ (m o : Nat) (st : List Int) (base : Nat), m = P.costs.length - o → o ≤ P.costs.length → stOB st P.costs.length = true → (∀ j, j < o → nth st j ≠ -1) → ∀ (j : Nat) s n, (stsF P f b m o st)[j]? = some s → (treeF P f b m o st base)[j]? = some n → NodeP P f b n s := by
  intro m
  have leaf : ∀ (m o : Nat) (st : List Int) (base : Nat) (n : Nd), stOB st P.costs.length = true → (∀ j, j < o → nth st j ≠ -1) → leafN P f b o st = some n → ∀ (j : Nat) s n', (stsF P f b m o st)[j]? = some s → (treeF P f b m o st base)[j]? = some n' → NodeP P f b n' s := fun m o st base n hst hdec h j s n' h1 h2 => by
    rw [sts_leaf h] at h1
    rw [tree_leaf h] at h2
    cases j with
    | zero =>
      simp at h1 h2
      subst h1 h2
      exact leaf_P hst hdec h
    | succ j => simp at h1
  induction m with
  | zero =>
    intro o st base hm ho hst hdec
    have hsl := st_len hst
    obtain ⟨n, hn⟩ : ∃ n, leafN P f b o st = some n := by
      unfold leafN
      split
      · exact ⟨_, rfl⟩
      · rw [if_pos (.inl (by omega))]; exact ⟨_, rfl⟩
    exact leaf 0 o st base n hst hdec hn
  | succ m ih =>
    intro o st base hm ho hst hdec
    cases hlf : leafN P f b o st with
    | some n => exact leaf (m + 1) o st base n hst hdec hlf
    | none =>
      have hsl := st_len hst
      have hd' : ∀ x : Int, x ≠ -1 → ∀ j, j < o + 1 → nth (st.set o x) j ≠ -1 := fun x hx j hj => by
        rw [nth_set]
        split
        · exact hx
        · exact hdec j (by omega)
      intro j s n h1 h2
      rw [stsF, hlf] at h1
      rw [treeF, hlf] at h2
      simp only at h1 h2
      cases j with
      | zero =>
        simp at h2
        subst h2
        exact .inl rfl
      | succ j =>
        rw [List.getElem?_cons_succ] at h1 h2
        have hzs : (stsF P f b m (o + 1) (st.set o 0)).length = (treeF P f b m (o + 1) (st.set o 0) (base + 1)).length := sts_len
        rcases Nat.lt_or_ge j (stsF P f b m (o + 1) (st.set o 0)).length with hj | hj
        · rw [List.getElem?_append_left hj] at h1
          rw [List.getElem?_append_left (by omega)] at h2
          exact ih (o + 1) (st.set o 0) (base + 1) (by omega) (by omega) (stO_set hst (by omega)) (hd' 0 (by omega)) j s n h1 h2
        · rw [List.getElem?_append_right hj, hzs] at h1
          rw [List.getElem?_append_right (by omega)] at h2
          exact ih (o + 1) (st.set o 1) _ (by omega) (by omega) (stO_set hst (by omega)) (hd' 1 (by omega)) _ s n h1 h2
theorem cert_len (hv : validB P = true) : (certF P f b).length ≤ 8191 := by
  have h1 : (certF P f b).length ≤ 2 ^ (P.costs.length + 1) - 1 := tree_len
  have h2 : 2 ^ (P.costs.length + 1) ≤ 2 ^ 13 := Nat.pow_le_pow_right (by omega) (by have := (validB_parts hv).1; omega)
  omega
theorem root_st : stOB (List.replicate P.costs.length (-1)) P.costs.length = true := by simp [stOB, tri9]
theorem cert_states (hv : validB P = true) : statesF P (certF P f b) = (some (stsF P f b P.costs.length 0 (List.replicate P.costs.length (-1))), 0) := by
  have h8 := cert_len (f := f) (b := b) hv
  have h0 : 1 ≤ (certF P f b).length := tree_pos
  have hz : (stsF P f b P.costs.length 0 (List.replicate P.costs.length (-1))).length = (certF P f b).length := sts_len
  have key := goS_tree (f := f) (b := b) hv (N := (certF P f b).length) P.costs.length 0 (List.replicate P.costs.length (-1)) 0 ((List.replicate (certF P f b).length []).set 0 (List.replicate P.costs.length (-1))) ((List.replicate (certF P f b).length false).set 0 true) [] (by omega) (by omega) (by simp) (fun j _ h => by simp [nth, List.getD_eq_getElem?_getD, h]) (by simp) (by simp) (by show 0 + (certF P f b).length ≤ _; omega)
    (by rw [List.getElem?_set_self (by simp; omega)]) (by rw [List.getElem?_set_self (by simp; omega)]) (fun j h1 h2 => by
      have h2' : j < 0 + (certF P f b).length := h2
      rw [List.getElem?_set_ne (by omega), List.getElem?_replicate, if_pos (by omega)])
  rw [List.append_nil] at key
  have key' : goS P.costs.length P.rows.length (certF P f b).length 0 ((List.replicate (certF P f b).length []).set 0 (List.replicate P.costs.length (-1))) ((List.replicate (certF P f b).length false).set 0 true) (certF P f b) = some (stsF P f b P.costs.length 0 (List.replicate P.costs.length (-1))) := by
    refine key.trans ?_
    rw [goS]
    congr 1
    rw [spl, List.take_zero, List.nil_append, List.drop_of_length_le (by simp; omega), List.append_nil]
  rw [statesF, if_neg (by rw [hv]; decide), if_neg (by omega), if_neg (by omega), key']
/-- The certificate of the cheapest choice is accepted. -/
theorem cert_check (hv : validB P = true) : checkF P ⟨(bestF P).1, (bestF P).2.2, (bestF P).2.1, certF P (bestF P).1 (bestF P).2.1⟩ = 0 := by
  have hb := best_is P
  obtain ⟨f, hf⟩ : ∃ f, f = (bestF P).1 := ⟨_, rfl⟩
  obtain ⟨b, hbb⟩ : ∃ b, b = (bestF P).2.1 := ⟨_, rfl⟩
  have hn := tree_nodes (P := P) (f := f) (b := b) P.costs.length 0 (List.replicate P.costs.length (-1)) 0 (by omega) (by omega) root_st (fun j h => by omega)
  have hp : provedF P (certF P f b) = goP P (stsF P f b P.costs.length 0 (List.replicate P.costs.length (-1))) (certF P f b) 0 false := by rw [provedF, cert_states hv]
  have h0 : (goP P (stsF P f b P.costs.length 0 (List.replicate P.costs.length (-1))) (certF P f b) 0 false).2.2 = 0 := goP_ok _ _ _ _ fun j s n h1 h2 h3 => by
    rcases hn j s n h1 h2 with h | ⟨h, rfl⟩ | ⟨_, rfl, _⟩
    · omega
    · exact (dead_row h).2
    · simp [plainN] at h3
  obtain ⟨v, hv1⟩ : ∃ v, v = (goP P (stsF P f b P.costs.length 0 (List.replicate P.costs.length (-1))) (certF P f b) 0 false).1 := ⟨_, rfl⟩
  obtain ⟨sm, hsm⟩ : ∃ v, v = (goP P (stsF P f b P.costs.length 0 (List.replicate P.costs.length (-1))) (certF P f b) 0 false).2.1 := ⟨_, rfl⟩
  have hgo : goP P (stsF P f b P.costs.length 0 (List.replicate P.costs.length (-1))) (certF P f b) 0 false = (v, sm, 0) := Prod.ext hv1.symm (Prod.ext hsm.symm h0)
  rw [hgo] at hp
  -- a leaf with a bound: its bound is at least the best cost, and there is a choice
  have hat : sm = true → f = true ∧ b ≤ v := fun e => by
    rw [e] at hgo
    rcases goP_at _ _ _ _ _ hgo with ⟨h, _⟩ | ⟨j, s, n, h1, h2, h3, h4⟩
    · cases h
    · rcases hn j s n h1 h2 with h | ⟨_, rfl⟩ | ⟨hd, rfl, hst, hor⟩
      · omega
      · simp at h3
      · rcases hor with hdec | ⟨h5, h6⟩
        · have hsl := st_len hst
          have htri := tri_all hst
          obtain ⟨t, ht, hbit⟩ := exists_bits (fun i => decide (nth s i = 1)) P.costs.length
          have hc : Compl s t := fun i hi => by
            rw [hbit i (by omega)]
            exact ⟨fun h => by simp [h], fun h => by simp [h]⟩
          have hfree : hasB s (-1) = false := by
            cases hh : hasB s (-1) with
            | false => rfl
            | true => exact absurd rfl (hdec _ (hasB_iff.1 hh))
          have hm := (decided_iff hsl htri hv (by rw [← stO_state (validB_parts hv).1]; exact hst) hfree hc).1 hd
          have hl := least_ok hv (sub_Asc t P.costs.length) hm
          have hbd := bound_decided hsl htri hdec hc
          have hcst : costF P (subTo t P.costs.length) = bitSum P.costs t P.costs.length := by
            rw [costF, if_pos (by simp only [costOk, hv, sub_choice, Bool.and_self]), sumOf_sub]
          refine ⟨hf.trans hl.1, ?_⟩
          rw [h4, show boundF P s plainN = bitSum P.costs t P.costs.length from hbd, ← hcst, hbb]
          exact hl.2.1
        · exact ⟨h5, by rw [h4]; exact h6⟩
  rw [← hf, ← hbb]
  cases hff : f with
  | false =>
    rw [hff] at hf hp hat
    have hnone := hb.none hf.symm
    have hsf : sm = false := by
      cases sm with
      | false => rfl
      | true => have := (hat rfl).1; cases this
    rw [hsf] at hp
    have hb0 : b = 0 := by rw [hbb, hnone.2]
    have hc0 : (bestF P).2.2 = [] := by rw [hnone.2]
    simp [checkF, hv, hp, hb0, hc0]
    rw [hb0] at hp
    simp [hp]
  | true =>
    rw [hff] at hf hp hat
    have hbm := best_meets hv hf.symm
    have hps := fun t hm => proved_sound hp (t := t) hm
    have hsm1 : sm = true := by
      obtain ⟨t, ht, hbit⟩ := exists_bits (fun i => hasB (bestF P).2.2 (i : Int)) P.costs.length
      have hsub : subTo t P.costs.length = (bestF P).2.2 := asc_ext (sub_Asc t P.costs.length) hbm.2.2 fun x => by
        rw [mem_sub]
        constructor
        · rintro ⟨i, h1, rfl, h3⟩
          rw [hbit i h1] at h3
          exact hasB_iff.1 h3
        · intro hx
          have hxr := hbm.2.2.2 x hx
          refine ⟨x.toNat, by omega, by omega, ?_⟩
          rw [hbit x.toNat (by omega)]
          exact hasB_iff.2 (by rw [show ((x.toNat : Nat) : Int) = x by omega]; exact hx)
      exact (hps t (by rw [hsub]; exact hbm.1)).1
    have hbv := (hat hsm1).2
    rw [hsm1] at hp
    simp only [checkF, hv, hp, hbm.1, hbm.2.1, ← hbb]
    simp
    omega
end
end Go.Proofs.Ytlenfbnoobpdaaa
