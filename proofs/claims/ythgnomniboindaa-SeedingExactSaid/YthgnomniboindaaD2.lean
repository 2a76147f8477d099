/- Several texts in one: GL25a, GL25b, GL25c, GL25d, GL25e, GL25f, GL25g, GL25n. -/
import Derived.Test.YthgnomniboindaaD1
/- Layer 25: the search for one more marker: the program's closure. -/
section
namespace Go.Proofs.Ythgnomniboindaa
set_option linter.unusedVariables false
set_option linter.unusedSimpArgs false
set_option linter.unnecessarySimpa false
set_option linter.unusedSectionVars false
set_option maxRecDepth 10000
open Go.RowKit
def bsL (K : Nat) (f : Nat → Bool) : List (List AV) := (List.range K).map fun m => [AV.bool (f m)]
def nsL (K : Nat) (f : Nat → Nat) : List (List AV) := (List.range K).map fun m => [AV.int .i64 (f m : Nat)]
def rowsM (n K : Nat) (A : Nat → Nat → Bool) : List (Option (List (List AV))) := (List.range n).map fun i => some (bsL K (A i))
theorem bsL_len {K : Nat} {f : Nat → Bool} : (bsL K f).length = K := by simp [bsL]
theorem nsL_len {K : Nat} {f : Nat → Nat} : (nsL K f).length = K := by simp [nsL]
theorem rowsM_len {n K : Nat} {A : Nat → Nat → Bool} : (rowsM n K A).length = n := by simp [rowsM]
theorem idx_f {g : Nat → List AV} {n : Nat} {m : Nat} {k : Int} {P : List AV → Prop} (hk : k = m) (hm : m < n) (h : P (g m)) : idx ((List.range n).map g) k P :=
  idx_i (cs := g m) (by omega) (by rw [hk, Int.toNat_natCast, List.getElem?_map, List.getElem?_range hm]; rfl) h
theorem ridx_f {g : Nat → Option (List (List AV))} {n : Nat} {m : Nat} {k : Int} {P : Option (List (List AV)) → Prop} (hk : k = m) (hm : m < n) (h : P (g m)) : ridx ((List.range n).map g) k P :=
  ridx_i (o := g m) (by omega) (by rw [hk, Int.toNat_natCast, List.getElem?_map, List.getElem?_range hm]; rfl) h
theorem mod_f {α : Type} {g : Nat → α} {n m : Nat} {h : α → α} : ((List.range n).map g).modify m h = (List.range n).map fun k => if k = m then h (g k) else g k := by
  refine List.ext_getElem? fun i => ?_
  rw [List.getElem?_modify, List.getElem?_map, List.getElem?_map]
  by_cases hi : i < n
  · rw [List.getElem?_range hi]
    by_cases e : m = i
    · subst e; simp
    · simp [e, Ne.symm e]
  · rw [List.getElem?_eq_none (by simpa using hi)]; simp
theorem bs_set {K m : Nat} {f : Nat → Bool} {k : Int} (hk : k = m) : (bsL K f).modify k.toNat (·.set 0 (.bool true)) = bsL K (setV f m) := by
  rw [hk, Int.toNat_natCast, bsL, mod_f, bsL]
  refine List.map_congr_left fun x _ => ?_
  by_cases e : x = m <;> simp [setV, e]
theorem ns_inc {K m : Nat} {f : Nat → Nat} {k x : Int} (hk : k = m) (hx : x = (f m : Nat) + 1) : (nsL K f).modify k.toNat (·.set 0 (.int .i64 x)) = nsL K (incL f m) := by
  rw [hk, hx, Int.toNat_natCast, nsL, mod_f, nsL]
  refine List.map_congr_left fun x _ => ?_
  by_cases e : x = m <;> simp [incL, e]
theorem rows_set {n K i m : Nat} {A : Nat → Nat → Bool} {b : Bool} {j k : Int} (hj : j = i) (hk : k = m) : (rowsM n K A).modify j.toNat (storeRow k.toNat 0 (.bool b)) = rowsM n K (setA A i m b) := by
  rw [hj, hk, Int.toNat_natCast, Int.toNat_natCast, rowsM, mod_f, rowsM]
  refine List.map_congr_left fun x _ => ?_
  by_cases e : x = i
  · subst e
    rw [if_pos rfl, storeRow, bsL, mod_f, bsL]
    refine congrArg some (List.map_congr_left fun y _ => ?_)
    by_cases e : y = m <;> simp [setA, e]
  · rw [if_neg e]
    refine congrArg (fun l => some l) (List.map_congr_left fun y _ => ?_)
    simp [setA, e]
theorem tryJ_yes {srch : Nat → Flw → Bool × Flw} {i m j : Nat} {js : List Nat} {s : Flw} (hA : s.A j m = true) (h : (srch j s).1 = true) : tryJ srch i m (j :: js) s = (true, ⟨setA (setA (srch j s).2.A j m false) i m true, (srch j s).2.ld, (srch j s).2.V⟩) := by
  rw [tryJ, if_pos hA]
  generalize srch j s = r at h
  obtain ⟨b, s1⟩ := r
  simp only at h
  subst h; rfl
theorem tryJ_no {srch : Nat → Flw → Bool × Flw} {i m j : Nat} {js : List Nat} {s : Flw} (hA : s.A j m = true) (h : (srch j s).1 = false) : tryJ srch i m (j :: js) s = tryJ srch i m js (srch j s).2 := by
  rw [tryJ, if_pos hA]
  generalize srch j s = r at h
  obtain ⟨b, s1⟩ := r
  simp only at h
  subst h; rfl
theorem tryJ_skip {srch : Nat → Flw → Bool × Flw} {i m j : Nat} {js : List Nat} {s : Flw} (hA : s.A j m = false) : tryJ srch i m (j :: js) s = tryJ srch i m js s := by
  rw [tryJ, if_neg (by simp [hA])]
end Go.Proofs.Ythgnomniboindaa
end

/- Layer 25: assignments of the program: augment, fill, newFlow. -/
section
namespace Go.Proofs.Ythgnomniboindaa
set_option linter.unusedVariables false
set_option linter.unusedSimpArgs false
set_option linter.unnecessarySimpa false
set_option linter.unusedSectionVars false
set_option maxRecDepth 10000
open Go.RowKit
theorem bs_false {K : Nat} : List.replicate K [AV.bool false] = bsL K fun _ => false := by
  refine List.ext_getElem? fun i => ?_
  rw [List.getElem?_replicate, bsL, List.getElem?_map]
  split
  · next h => rw [List.getElem?_range h]; rfl
  · next h => rw [List.getElem?_eq_none (by simp; omega)]; rfl
theorem rounds_yes {E : Nat → Nat → Bool} {lim : Nat → Nat} {n K i q : Nat} {s : Flw} (h : (augF E lim n K i s).1 = true) : roundsF E lim n K i (q + 1) s = roundsF E lim n K i q (augF E lim n K i s).2 := by
  rw [roundsF]
  generalize augF E lim n K i s = r at h
  obtain ⟨b, s1⟩ := r
  simp only at h
  subst h; rfl
theorem rounds_no {E : Nat → Nat → Bool} {lim : Nat → Nat} {n K i q : Nat} {s : Flw} (h : (augF E lim n K i s).1 = false) : roundsF E lim n K i (q + 1) s = (false, (augF E lim n K i s).2) := by
  rw [roundsF]
  generalize augF E lim n K i s = r at h
  obtain ⟨b, s1⟩ := r
  simp only at h
  subst h; rfl
end Go.Proofs.Ythgnomniboindaa
end

/- Layer 25: a new assignment, the best one, the least greatest load: of the program. -/
section
namespace Go.Proofs.Ythgnomniboindaa
set_option linter.unusedVariables false
set_option linter.unusedSimpArgs false
set_option linter.unnecessarySimpa false
set_option linter.unusedSectionVars false
set_option maxRecDepth 10000
open Go.RowKit
structure MksOk (l : List Mrk) : Prop where
  len : l.length ≤ 16
  all : ∀ (k : Nat) (m : Mrk), l[k]? = some m → GoodMk m
  asc : AscM l
structure ScsOk (s : List Scr) : Prop where
  len : s.length ≤ 60
  all : ∀ (k : Nat) (x : Scr), s[k]? = some x → GoodS x ∧ x.pages.length ≤ 12
  asc : AscS s
theorem MksOk.short {l : List Mrk} (h : MksOk l) : ShortL l := ⟨by have := h.len; omega, fun k m hm => (h.all k m hm).len⟩
/-- Who may mark what; the capacities. -/
def elF (l : List Mrk) (s : List Scr) (i m : Nat) : Bool := match s[i]?, l[m]? with
  | some x, some k => mayB k x
  | _, _ => false
def capF (l : List Mrk) (m : Nat) : Nat := match l[m]? with
  | some k => k.cap.toNat
  | none => 0
theorem elF_at {l : List Mrk} {s : List Scr} {i m : Nat} {x : Scr} {k : Mrk} (h1 : s[i]? = some x) (h2 : l[m]? = some k) : elF l s i m = mayB k x := by
  unfold elF; rw [h1, h2]
theorem capF_at {l : List Mrk} {m : Nat} {k : Mrk} (h2 : l[m]? = some k) : capF l m = k.cap.toNat := by
  unfold capF; rw [h2]
theorem lim_at {l : List Mrk} {k most : Nat} {m : Mrk} (h : l[k]? = some m) (hc : 0 ≤ m.cap) : (((limF (capF l) most k : Nat)) : Int) = if (most : Int) < m.cap then (most : Int) else m.cap := by
  unfold limF; rw [capF_at h]; split <;> omega
theorem rows_next {n K : Nat} {A : Nat → Nat → Bool} : rowsM (n + 1) K A = rowsM n K A ++ [some (bsL K (A n))] := by
  unfold rowsM; rw [List.range_succ, List.map_append]; rfl
theorem ns_next {k : Nat} {f : Nat → Nat} : nsL (k + 1) f = nsL k f ++ [[.int .i64 (f k : Nat)]] := by
  unfold nsL; rw [List.range_succ, List.map_append]; rfl
end Go.Proofs.Ythgnomniboindaa
end

/- Layer 25: the best assignment, the least greatest load: of the program. -/
section
namespace Go.Proofs.Ythgnomniboindaa
set_option linter.unusedVariables false
set_option linter.unusedSimpArgs false
set_option linter.unnecessarySimpa false
set_option linter.unusedSectionVars false
set_option maxRecDepth 10000
open Go.RowKit
theorem wf_0 {E : Nat → Nat → Bool} {lim : Nat → Nat} {n K : Nat} : WF E lim n K flw0 := (upto_0 (r := 0)).wf
def okK (k : Int) : Bool := decide (1 ≤ k) && decide (k ≤ 2)
theorem okK_in {k : Int} (h : okK k = true) : ∃ q : Nat, k = q ∧ 1 ≤ q ∧ q ≤ 2 := by
  simp [okK] at h
  exact ⟨k.toNat, by omega, by omega, by omega⟩
def lstF (l : List Mrk) (s : List Scr) (k : Int) : Option Nat := if okK k = true then leastF (elF l s) (capF l) s.length l.length k.toNat else none
end Go.Proofs.Ythgnomniboindaa
end

/- Layer 25: Allocate and Witness of the program. -/
section
namespace Go.Proofs.Ythgnomniboindaa
set_option linter.unusedVariables false
set_option linter.unusedSimpArgs false
set_option linter.unnecessarySimpa false
set_option linter.unusedSectionVars false
set_option maxRecDepth 10000
open Go.RowKit
def encT (t : Int × Int) : List AV := [.int .i64 t.1, .int .i64 t.2]
def numF (s : List Scr) (i : Nat) : Int := match s[i]? with | some x => x.number | none => 0
def idF (l : List Mrk) (m : Nat) : Int := match l[m]? with | some k => k.id | none => 0
theorem numF_at {s : List Scr} {i : Nat} {x : Scr} (h : s[i]? = some x) : numF s i = x.number := by unfold numF; rw [h]
theorem idF_at {l : List Mrk} {m : Nat} {k : Mrk} (h : l[m]? = some k) : idF l m = k.id := by unfold idF; rw [h]
def rowT (l : List Mrk) (s : List Scr) (A : Nat → Nat → Bool) (i k : Nat) : List (Int × Int) := (List.range k).flatMap fun m => if A i m = true then [(numF s i, idF l m)] else []
def tasksT (l : List Mrk) (s : List Scr) (A : Nat → Nat → Bool) (n : Nat) : List (Int × Int) := (List.range n).flatMap fun i => rowT l s A i l.length
theorem rowT_next {l : List Mrk} {s : List Scr} {A : Nat → Nat → Bool} {i k : Nat} : rowT l s A i (k + 1) = rowT l s A i k ++ if A i k = true then [(numF s i, idF l k)] else [] := by
  unfold rowT; rw [List.range_succ, List.flatMap_append]; simp
theorem tasksT_next {l : List Mrk} {s : List Scr} {A : Nat → Nat → Bool} {n : Nat} : tasksT l s A (n + 1) = tasksT l s A n ++ rowT l s A n l.length := by
  unfold tasksT; rw [List.range_succ, List.flatMap_append]; simp
theorem rowT_len {l : List Mrk} {s : List Scr} {A : Nat → Nat → Bool} {i : Nat} : ∀ {k : Nat}, (rowT l s A i k).length ≤ k
  | 0 => by simp [rowT]
  | k + 1 => by
    have := rowT_len (l := l) (s := s) (A := A) (i := i) (k := k)
    rw [rowT_next, List.length_append]; split <;> simp <;> omega
theorem tasksT_len {l : List Mrk} {s : List Scr} {A : Nat → Nat → Bool} : ∀ {n : Nat}, (tasksT l s A n).length ≤ n * l.length
  | 0 => by simp [tasksT]
  | n + 1 => by
    have h1 := tasksT_len (l := l) (s := s) (A := A) (n := n)
    have h2 := rowT_len (l := l) (s := s) (A := A) (i := n) (k := l.length)
    rw [tasksT_next, List.length_append, Nat.add_mul]; omega
def AllR (l : List Mrk) (s : List Scr) (k : Int) (r : AV) : Prop :=
  (okK k = false ∧ r = .tup [.lst 2 [], .int .i64 1]) ∨ (okK k = true ∧ lstF l s k = none ∧ r = .tup [.lst 2 [], .int .i64 41]) ∨
    ∃ a s', okK k = true ∧ lstF l s k = some a ∧ Upto (elF l s) (limF (capF l) a) s.length l.length k.toNat s.length s' ∧ r = .tup [.lst 2 ((tasksT l s s'.A s.length).map encT), .int .i64 0]
end Go.Proofs.Ythgnomniboindaa
end

/- Layer 25: the search of the reference. -/
section
namespace Go.Proofs.Ythgnomniboindaa
set_option linter.unusedVariables false
set_option linter.unusedSimpArgs false
set_option linter.unnecessarySimpa false
set_option linter.unusedSectionVars false
set_option maxRecDepth 10000
open Go.RowKit
def plGL25f_0 : Plan := (.take 0 (.take 1 (.take 2 (.take 3 (.take 4 (.take 5 (.take 6 (.take 7 .done))))))))
def plGL25f_1 : Plan := (.take 0 (.take 1 (.take 2 (.take 3 (.take 5 (.take 6 (.alt 4 (.take 7 .done) .stop)))))))
def plGL25f_2 : Plan := (.take 0 (.take 2 (.take 5 (.alt 1 (.take 3 (.alt 4 (.alt 6 (.take 7 .done) .stop) (.alt 6 (.alt 4 (.take 7 .done) .stop) .stop))) (.alt 6 (.alt 1 (.take 3 (.alt 4 (.take 7 .done) .stop)) .stop) .stop)))))
def plGL25f_3 : Plan := (.take 0 (.take 1 (.take 2 (.take 3 (.take 4 (.take 5 (.take 6 (.take 7 (.take 8 (.take 9 (.take 10 (.take 11 (.take 12 (.take 13 (.take 14 (.take 15 (.take 16 (.take 17 (.take 18 (.take 19 (.take 20 (.take 21 (.take 22 (.take 23 (.take 24 (.take 25 (.take 26 (.take 27 (.take 28 (.take 29 (.take 30 (.alt 31 (.take 32 (.take 33 .done)) .stop))))))))))))))))))))))))))))))))
def plGL25f_4 : Plan := (.take 0 (.take 1 (.take 2 (.alt 3 (.take 4 (.take 5 (.take 6 (.take 7 (.take 9 (.take 12 (.alt 8 (.take 10 (.alt 11 (.take 13 (.alt 14 (.take 15 (.take 16 (.take 17 (.take 18 (.take 19 (.take 21 (.take 24 (.take 25 (.take 26 (.take 28 (.alt 20 (.take 22 (.alt 23 (.alt 27 (.take 29 (.alt 30 (.alt 31 (.take 32 (.take 33 .done)) .stop) .stop)) .stop) (.alt 27 (.take 29 (.alt 23 (.alt 30 (.alt 31 (.take 32 (.take 33 .done)) .stop) .stop) (.alt 30 (.alt 23 (.alt 31 (.take 32 (.take 33 .done)) .stop) .stop) .stop))) .stop))) (.alt 27 (.take 29 (.alt 20 (.take 22 (.alt 23 (.alt 30 (.alt 31 (.take 32 (.take 33 .done)) .stop) .stop) (.alt 30 (.alt 23 (.alt 31 (.take 32 (.take 33 .done)) .stop) .stop) .stop))) (.alt 30 (.alt 20 (.take 22 (.alt 23 (.alt 31 (.take 32 (.take 33 .done)) .stop) .stop)) .stop) .stop))) .stop)))))))))))) .stop)) .stop)) .stop))))))) .stop))))
def plGL25f_5 : Plan := (.take 0 (.take 1 (.take 2 (.take 3 (.take 4 (.take 5 (.take 6 (.take 7 (.take 8 (.take 9 (.take 10 (.take 11 (.take 12 (.take 13 (.take 14 .done)))))))))))))))
def plGL25f_6 : Plan := (.take 0 (.take 1 (.take 2 (.take 3 (.take 4 (.take 5 (.take 7 (.take 8 (.take 9 (.take 10 (.take 11 (.take 12 (.alt 6 (.alt 13 (.take 14 .done) .stop) (.alt 13 (.alt 6 (.take 14 .done) .stop) .stop))))))))))))))
def plGL25f_7 : Plan := (.take 0 (.take 1 (.take 2 (.take 4 (.take 7 (.take 8 (.take 9 (.take 11 (.alt 3 (.take 5 (.alt 6 (.alt 10 (.take 12 (.alt 13 (.take 14 .done) .stop)) .stop) (.alt 10 (.take 12 (.alt 6 (.alt 13 (.take 14 .done) .stop) (.alt 13 (.alt 6 (.take 14 .done) .stop) .stop))) .stop))) (.alt 10 (.take 12 (.alt 3 (.take 5 (.alt 6 (.alt 13 (.take 14 .done) .stop) (.alt 13 (.alt 6 (.take 14 .done) .stop) .stop))) (.alt 13 (.alt 3 (.take 5 (.alt 6 (.take 14 .done) .stop)) .stop) .stop))) .stop))))))))))
def plGL25f_8 : Plan := (.take 0 (.take 1 (.take 2 (.take 3 (.take 4 (.take 5 (.take 6 (.take 7 (.take 8 (.take 9 (.take 10 (.take 11 (.take 12 (.take 13 (.take 14 (.take 15 (.take 16 (.altE 17 (.take 18 (.altE 19 .done .stop)) .stop))))))))))))))))))
def plGL25f_9 : Plan := (.take 0 (.take 1 (.take 2 (.take 3 (.take 4 (.take 5 (.take 7 (.take 8 (.take 9 (.take 10 (.take 11 (.take 12 (.take 13 (.take 15 (.alt 6 (.alt 14 (.take 16 (.altE 17 (.take 18 (.altE 19 .done .stop)) .stop)) .stop) (.alt 14 (.alt 6 (.take 16 (.altE 17 (.take 18 (.altE 19 .done .stop)) .stop)) .stop) .stop))))))))))))))))
def plGL25f_10 : Plan := (.take 0 (.take 1 (.take 2 (.take 4 (.take 7 (.take 8 (.take 9 (.take 10 (.take 12 (.take 15 (.alt 3 (.take 5 (.alt 6 (.alt 11 (.take 13 (.alt 14 (.take 16 (.alt 17 (.take 18 (.alt 19 .done .stop)) .stop)) .stop)) .stop) (.alt 11 (.take 13 (.alt 6 (.alt 14 (.take 16 (.alt 17 (.take 18 (.alt 19 .done .stop)) .stop)) .stop) (.alt 14 (.alt 6 (.take 16 (.alt 17 (.take 18 (.alt 19 .done .stop)) .stop)) .stop) .stop))) .stop))) (.alt 11 (.take 13 (.alt 3 (.take 5 (.alt 6 (.alt 14 (.take 16 (.alt 17 (.take 18 (.alt 19 .done .stop)) .stop)) .stop) (.alt 14 (.alt 6 (.take 16 (.alt 17 (.take 18 (.alt 19 .done .stop)) .stop)) .stop) .stop))) (.alt 14 (.alt 3 (.take 5 (.alt 6 (.take 16 (.alt 17 (.take 18 (.alt 19 .done .stop)) .stop)) .stop)) .stop) .stop))) .stop))))))))))))
def plGL25f_11 : Plan := (.take 0 (.take 1 (.take 2 (.alt 3 (.take 4 (.take 5 (.take 6 (.take 7 (.take 9 (.take 12 (.alt 8 (.take 10 (.alt 11 (.take 13 (.alt 14 (.take 15 (.take 16 (.take 17 (.take 18 (.take 19 (.take 21 (.take 24 (.take 25 (.take 26 (.take 28 (.alt 20 (.take 22 (.alt 23 (.alt 27 (.take 29 (.alt 30 (.altM 31 (.take 32 (.take 33 .done)) .stop) .stop)) .stop) (.alt 27 (.take 29 (.alt 23 (.alt 30 (.altM 31 (.take 32 (.take 33 .done)) .stop) .stop) (.alt 30 (.alt 23 (.altM 31 (.take 32 (.take 33 .done)) .stop) .stop) .stop))) .stop))) (.alt 27 (.take 29 (.alt 20 (.take 22 (.alt 23 (.alt 30 (.altM 31 (.take 32 (.take 33 .done)) .stop) .stop) (.alt 30 (.alt 23 (.altM 31 (.take 32 (.take 33 .done)) .stop) .stop) .stop))) (.alt 30 (.alt 20 (.take 22 (.alt 23 (.altM 31 (.take 32 (.take 33 .done)) .stop) .stop)) .stop) .stop))) .stop)))))))))))) .stop)) .stop)) .stop))))))) .stop))))
def plGL25f_12 : Plan := (.take 0 (.take 1 (.take 2 (.takeQ 3 (.take 4 (.take 5 (.take 6 (.take 7 (.take 8 (.take 9 (.take 10 (.take 12 (.takeQ 11 (.take 13 (.takeQ 14 (.take 15 (.take 16 (.take 17 (.take 18 (.take 19 (.take 20 (.take 21 (.take 22 (.take 23 (.take 24 (.take 25 (.take 26 (.take 27 (.take 28 (.take 29 (.take 30 (.alt 31 (.take 32 (.take 33 .done)) .stop))))))))))))))))))))))))))))))))
def plGL25f_13 : Plan := (.take 0 (.take 1 (.take 2 (.take 3 (.take 4 (.take 5 (.take 7 (.take 8 (.take 9 (.take 10 (.take 11 (.take 12 (.takeQ 6 (.take 13 (.take 14 .done)))))))))))))))
def plGL25f_14 : Plan := (.take 0 (.take 1 (.take 2 (.take 3 (.take 4 (.take 5 (.take 7 (.take 8 (.take 9 (.take 10 (.take 11 (.take 12 (.take 13 (.take 15 (.takeQ 6 (.takeQ 14 (.take 16 (.altE 17 (.take 18 (.altE 19 .done .stop)) .stop))))))))))))))))))
theorem fit_yes {l : List Int} {p x : Int} (hx : x ∈ l) (h : x = p) : hasP l p = true := by
  unfold hasP; rw [List.any_eq_true]; exact ⟨x, hx, by simp [h]⟩
theorem fit_no {l : List Int} {p : Int} (h : ∀ x ∈ l, x ≠ p) : hasP l p = false := by
  unfold hasP; rw [List.any_eq_false]; intro x hx; simp; exact fun e => h x hx e.symm
theorem fits_ok (m : Mrk) (s : Scr) (hm : m.papers.length ≤ 1000) : Good Try.prog TT false 68 [.agg (encM m), .agg (encR s)] (· = .bool (mayB m s)) := by
  have LP : (m.papers.map encI).length = m.papers.length := List.length_map ..
  refine good_of mixed tabOk Try.func68 rfl rfl Try.ntmps68 Try.results68 rfl rfl ?_
  (conv => whnf); (repeat' (first | (refine arith_i ⟨by omega, by omega⟩ ?_; conv => whnf) | (refine arith_u ⟨by omega, by omega⟩ ?_; conv => whnf) | (refine arith_8 ⟨by omega, by omega⟩ ?_; conv => whnf) | (refine need_i (by first | omega | (simp only [List.length_cons, List.length_nil]; omega) | (simp only [List.length_append, List.length_cons, List.length_nil, List.length_map, List.length_replicate, List.length_modify]; omega)) ?_; conv => whnf) | ((with_reducible first | refine branch_tt ?_ | refine branch_ff ?_); conv => whnf) | (with_reducible refine branch_not ?_) | ((with_reducible first | refine slc_e ?_ | refine callS_a ?_ | refine bld_a ?_ | refine own_e ?_ | refine mkmap_b ?_ | refine lnk_a ?_); conv => whnf) | (refine draw_i 8 plGL25f_0 (by decide +kernel) ?_; (conv => whnf); fail_if_success (guard_target =~ False)) | (refine draw_i 8 plGL25f_1 (by decide +kernel) ?_; (conv => whnf); fail_if_success (guard_target =~ False)) | (refine draw_i 8 plGL25f_2 (by decide +kernel) ?_; (conv => whnf); fail_if_success (guard_target =~ False)) | ((with_reducible refine And.intro ?_ ?_) <;> (conv => whnf)) | (with_reducible exact trivial) | ((with_reducible first | refine branch_d (fun hq => ?_) (fun hq => ?_) | refine branch_e (fun hq => ?_) (fun hq => ?_) | refine branch_n (fun hq => ?_) (fun hq => ?_) | refine branch_i (fun hq => ?_) (fun hq => ?_)) <;> (try (exfalso; omega)) <;> (conv => whnf))))
  refine loop_i (fun k : Nat => k ≤ m.papers.length ∧ ∀ x ∈ m.papers.take k, x ≠ s.paper) (fun k => mkSt [(2, .ptr 2 0), (3, .ptr 3 0), (5, .int .i64 k)] [(2, encM m), (3, encR s)] false) (fun k => m.papers.length - k) 0 ⟨Nat.zero_le _, by simp⟩ (le_mk (by repeat' (first | exact trivial | rfl | apply And.intro)) (by repeat' (first | exact trivial | rfl | apply And.intro)) rfl) ?_
  rintro k ⟨hk, hall⟩
  (conv => whnf); (repeat' (first | (refine arith_i ⟨by omega, by omega⟩ ?_; conv => whnf) | (refine arith_u ⟨by omega, by omega⟩ ?_; conv => whnf) | (refine arith_8 ⟨by omega, by omega⟩ ?_; conv => whnf) | (refine need_i (by first | omega | (simp only [List.length_cons, List.length_nil]; omega) | (simp only [List.length_append, List.length_cons, List.length_nil, List.length_map, List.length_replicate, List.length_modify]; omega)) ?_; conv => whnf) | ((with_reducible first | refine branch_tt ?_ | refine branch_ff ?_); conv => whnf) | (with_reducible refine branch_not ?_) | ((refine idx_c (xs := m.papers) (by omega) fun x hx => ?_); conv => whnf) | ((with_reducible first | refine slc_e ?_ | refine callS_a ?_ | refine bld_a ?_ | refine own_e ?_ | refine mkmap_b ?_ | refine lnk_a ?_); conv => whnf) | (refine draw_i 8 plGL25f_0 (by decide +kernel) ?_; (conv => whnf); fail_if_success (guard_target =~ False)) | (refine draw_i 8 plGL25f_1 (by decide +kernel) ?_; (conv => whnf); fail_if_success (guard_target =~ False)) | (refine draw_i 8 plGL25f_2 (by decide +kernel) ?_; (conv => whnf); fail_if_success (guard_target =~ False)) | ((with_reducible refine And.intro ?_ ?_) <;> (conv => whnf)) | (with_reducible exact trivial) | ((with_reducible first | refine branch_d (fun hq => ?_) (fun hq => ?_) | refine branch_e (fun hq => ?_) (fun hq => ?_) | refine branch_n (fun hq => ?_) (fun hq => ?_) | refine branch_i (fun hq => ?_) (fun hq => ?_)) <;> (try (exfalso; omega)) <;> (conv => whnf))))
  · exact ret_p rfl (bool_eq (by rw [mayB, fit_yes (List.mem_of_getElem? hx) hq, Bool.and_true]))
  · refine ⟨k + 1, ⟨by omega, fun y hy => ?_⟩, (le_mk (by repeat' (first | exact trivial | rfl | apply And.intro)) (by repeat' (first | exact trivial | rfl | apply And.intro)) rfl), by omega⟩
    rw [List.take_add_one, hx] at hy
    rcases List.mem_append.1 hy with hy | hy
    · exact hall y hy
    · simp at hy; rw [hy]; exact hq
  · rw [List.take_of_length_le (by omega)] at hall
    exact ret_p rfl (bool_eq (by rw [mayB, fit_no hall, Bool.and_false]))
def rowsC (n K : Nat) (A : Nat → Nat → Bool) : List (Option (List (List AV))) := rowsM K n fun m i => A i m
theorem rowsC_len {n K : Nat} {A : Nat → Nat → Bool} : (rowsC n K A).length = K := rowsM_len
theorem tr_set {A : Nat → Nat → Bool} {i m : Nat} {b : Bool} : setA (fun m i => A i m) m i b = fun m' i' => setA A i m b i' m' := by
  funext m' i'
  simp only [setA]
  by_cases h : i' = i ∧ m' = m
  · rw [if_pos h, if_pos ⟨h.2, h.1⟩]
  · rw [if_neg h, if_neg fun h' => h ⟨h'.2, h'.1⟩]
theorem rowsC_set {n K i m : Nat} {A : Nat → Nat → Bool} {b : Bool} {j k : Int} (hj : j = i) (hk : k = m) : (rowsC n K A).modify k.toNat (storeRow j.toNat 0 (.bool b)) = rowsC n K (setA A i m b) := by
  rw [rowsC, rows_set hk hj, tr_set]; rfl
def rflowC (l : List Mrk) (s : List Scr) (lim : Nat → Nat) (f : Flw) : List AV := [mrksV l, scrsV s, .mat 1101 84 4 1 (rowsC s.length l.length f.A), .own 1102 3 1 (nsL l.length f.ld), .lst 1 (nsL l.length lim)]
def seenV (l : List Mrk) (f : Flw) : AV := .own 1104 4 1 (bsL l.length f.V)
theorem rowsC_set2 {n K i j m : Nat} {A : Nat → Nat → Bool} {b c : Bool} {x y z : Int} (hx : x = j) (hy : y = i) (hz : z = m) : ((rowsC n K A).modify z.toNat (storeRow x.toNat 0 (.bool b))).modify z.toNat (storeRow y.toNat 0 (.bool c)) = rowsC n K (setA (setA A j m b) i m c) := by
  rw [rowsC_set hx hz, rowsC_set hy hz]
theorem ridx_setC {n K i m : Nat} {A : Nat → Nat → Bool} {b : Bool} {j k x : Int} {P : Option (List (List AV)) → Prop} (hj : j = i) (hk : k = m) (h : ridx (rowsC n K (setA A i m b)) x P) : ridx ((rowsC n K A).modify k.toNat (storeRow j.toNat 0 (.bool b))) x P := by
  rw [rowsC_set hj hk]; exact h
theorem idx_row {n a i j : Nat} {f : Nat → Bool} {x y : Int} {b : Bool} {e : List (List AV)} {P : List AV → Prop} (hx : x = j) (hy : y = i) (hi : i < n) (h : P [.bool (if i = j then b else f i)]) : idx (bif Nat.beq a a then (bsL n f).modify x.toNat (·.set 0 (.bool b)) else e) y P := by
  rw [beq_self, cond_true, hx, Int.toNat_natCast, bsL, mod_f]
  refine idx_f hy hi ?_
  by_cases h' : i = j
  · simp only [h', if_true] at h ⊢; exact h
  · simp only [h', if_false] at h ⊢; exact h
theorem seen_eq {l : List Mrk} {f : Flw} {v : List (List AV)} (h : v = bsL l.length f.V) : AV.own 1104 4 1 v = seenV l f := by rw [h]; rfl
theorem rflow_eq {l : List Mrk} {s : List Scr} {lim : Nat → Nat} {f : Flw} {rows : List (Option (List (List AV)))} {v : List (List AV)} (h1 : rows = rowsC s.length l.length f.A) (h2 : v = nsL l.length f.ld) :
    some [mrksV l, scrsV s, .mat 1101 84 4 1 rows, .own 1102 3 1 v, .lst 1 (nsL l.length lim)] = some (rflowC l s lim f) := by rw [h1, h2]; rfl
set_option maxHeartbeats 4000000 in
theorem give_ok (l : List Mrk) (s : List Scr) (lim : Nat → Nat) (hl : MksOk l) (hs : ScsOk s) (hlim : ∀ m, m < l.length → lim m ≤ 1000) : ∀ (f i : Nat) (F : Flw), i < s.length → unv l.length F ≤ f → (∀ m, m < l.length → F.ld m ≤ lim m) →
    GoodM Try.prog TT false 55 [.ptr 1000 0, .int .i64 i, seenV l F] [(1000, rflowC l s lim F)] (fun r ov bx => r = .bool (searchF (elF l s) lim s.length l.length f i F).1 ∧ ov = [(1002, seenV l (searchF (elF l s) lim s.length l.length f i F).2)] ∧ bx = [(1000, rflowC l s lim (searchF (elF l s) lim s.length l.length f i F).2)]) := by
  have LL : (l.map encM).length = l.length := List.length_map ..
  have LS : (s.map encR).length = s.length := List.length_map ..
  have h16 := hl.len
  have h60 := hs.len
  intro f
  induction f with
  | zero =>
    intro i F hi hu hld
    have hV : ∀ m, m < l.length → F.V m = true := fun m hm => unv_zero (by omega) hm
    have L1 : (bsL l.length F.V).length = l.length := bsL_len
    refine good_of_m (fun _ => false) mixed tabOk Try.func55 rfl rfl Try.ntmps55 Try.results55 rfl rfl ?_
    (conv => whnf); (repeat' (first | (refine arith_i ⟨by omega, by omega⟩ ?_; conv => whnf) | (refine arith_u ⟨by omega, by omega⟩ ?_; conv => whnf) | (refine arith_8 ⟨by omega, by omega⟩ ?_; conv => whnf) | (refine need_i (by first | omega | (simp only [List.length_cons, List.length_nil]; omega) | (simp only [List.length_append, List.length_cons, List.length_nil, List.length_map, List.length_replicate, List.length_modify]; omega)) ?_; conv => whnf) | ((with_reducible first | refine branch_tt ?_ | refine branch_ff ?_); conv => whnf) | (with_reducible refine branch_not ?_) | ((with_reducible first | refine slc_e ?_ | refine callS_a ?_ | refine bld_a ?_ | refine own_e ?_ | refine mkmap_b ?_ | refine lnk_a ?_); conv => whnf) | (refine draw_i 0 plGL25f_11 (by decide +kernel) ?_; (conv => whnf); fail_if_success (guard_target =~ False)) | (refine draw_i 34 plGL25f_3 (by decide +kernel) ?_; (conv => whnf); fail_if_success (guard_target =~ False)) | (refine draw_i 34 plGL25f_4 (by decide +kernel) ?_; (conv => whnf); fail_if_success (guard_target =~ False)) | (refine draw_i 15 plGL25f_5 (by decide +kernel) ?_; (conv => whnf); fail_if_success (guard_target =~ False)) | (refine draw_i 15 plGL25f_6 (by decide +kernel) ?_; (conv => whnf); fail_if_success (guard_target =~ False)) | (refine draw_i 15 plGL25f_7 (by decide +kernel) ?_; (conv => whnf); fail_if_success (guard_target =~ False)) | (refine draw_i 20 plGL25f_8 (by decide +kernel) ?_; (conv => whnf); fail_if_success (guard_target =~ False)) | (refine draw_i 20 plGL25f_9 (by decide +kernel) ?_; (conv => whnf); fail_if_success (guard_target =~ False)) | (refine draw_i 0 plGL25f_10 (by decide +kernel) ?_; (conv => whnf); fail_if_success (guard_target =~ False)) | ((with_reducible refine And.intro ?_ ?_) <;> (conv => whnf)) | (with_reducible exact trivial) | ((with_reducible first | refine branch_d (fun hq => ?_) (fun hq => ?_) | refine branch_e (fun hq => ?_) (fun hq => ?_) | refine branch_n (fun hq => ?_) (fun hq => ?_) | refine branch_i (fun hq => ?_) (fun hq => ?_)) <;> (try (exfalso; omega)) <;> (conv => whnf))))
    refine loop_i (fun m : Nat => m ≤ l.length) (fun m => mkSt [(0, .ptr 1000 0), (1, .int .i64 i), (2, seenV l F), (7, .int .i64 m), (1002, seenV l F)] [(1000, rflowC l s lim F)] false) (fun m => l.length - m) 0 (Nat.zero_le _) (le_mk (by repeat' (first | exact trivial | rfl | apply And.intro)) (by repeat' (first | exact trivial | rfl | apply And.intro)) rfl) ?_
    intro m hm
    (conv => whnf); (repeat' (first | (refine arith_i ⟨by omega, by omega⟩ ?_; conv => whnf) | (refine arith_u ⟨by omega, by omega⟩ ?_; conv => whnf) | (refine arith_8 ⟨by omega, by omega⟩ ?_; conv => whnf) | (refine need_i (by first | omega | (simp only [List.length_cons, List.length_nil]; omega) | (simp only [List.length_append, List.length_cons, List.length_nil, List.length_map, List.length_replicate, List.length_modify]; omega)) ?_; conv => whnf) | ((with_reducible first | refine branch_tt ?_ | refine branch_ff ?_); conv => whnf) | (with_reducible refine branch_not ?_) | (((refine idx_f (m := m) rfl (by omega) ?_; rw [hV m (by omega)])); conv => whnf) | ((with_reducible first | refine slc_e ?_ | refine callS_a ?_ | refine bld_a ?_ | refine own_e ?_ | refine mkmap_b ?_ | refine lnk_a ?_); conv => whnf) | (refine draw_i 34 plGL25f_12 (by decide +kernel) ?_; (conv => whnf); fail_if_success (guard_target =~ False)) | (refine draw_i 15 plGL25f_13 (by decide +kernel) ?_; (conv => whnf); fail_if_success (guard_target =~ False)) | (refine draw_i 20 plGL25f_14 (by decide +kernel) ?_; (conv => whnf); fail_if_success (guard_target =~ False)) | ((with_reducible refine And.intro ?_ ?_) <;> (conv => whnf)) | (with_reducible exact trivial) | ((with_reducible first | refine branch_d (fun hq => ?_) (fun hq => ?_) | refine branch_e (fun hq => ?_) (fun hq => ?_) | refine branch_n (fun hq => ?_) (fun hq => ?_) | refine branch_i (fun hq => ?_) (fun hq => ?_)) <;> (try (exfalso; omega)) <;> (conv => whnf))))
    · exact ⟨m + 1, by omega, (le_mk (by repeat' (first | exact trivial | rfl | apply And.intro)) (by repeat' (first | exact trivial | rfl | apply And.intro)) rfl), by omega⟩
    · have e : searchF (elF l s) lim s.length l.length 0 i F = (false, F) := rfl
      rw [e]
      exact retM_i _ [(1002, seenV l F)] [(1000, rflowC l s lim F)] rfl (le_mk (by repeat' (first | exact trivial | rfl | apply And.intro)) (by repeat' (first | exact trivial | rfl | apply And.intro)) rfl) rfl ⟨rfl, rfl, rfl⟩
  | succ f IH =>
    intro i s0 hi hu hld
    have L3 : ∀ F : Flw, (bsL l.length F.V).length = l.length := fun F => bsL_len
    have L2 : ∀ A, (rowsC s.length l.length A).length = l.length := fun A => rowsC_len
    refine good_of_m (fun _ => false) mixed tabOk Try.func55 rfl rfl Try.ntmps55 Try.results55 rfl rfl ?_
    (conv => whnf); (repeat' (first | (refine arith_i ⟨by omega, by omega⟩ ?_; conv => whnf) | (refine arith_u ⟨by omega, by omega⟩ ?_; conv => whnf) | (refine arith_8 ⟨by omega, by omega⟩ ?_; conv => whnf) | (refine need_i (by first | omega | (simp only [List.length_cons, List.length_nil]; omega) | (simp only [List.length_append, List.length_cons, List.length_nil, List.length_map, List.length_replicate, List.length_modify]; omega)) ?_; conv => whnf) | ((with_reducible first | refine branch_tt ?_ | refine branch_ff ?_); conv => whnf) | (with_reducible refine branch_not ?_) | ((with_reducible first | refine slc_e ?_ | refine callS_a ?_ | refine bld_a ?_ | refine own_e ?_ | refine mkmap_b ?_ | refine lnk_a ?_); conv => whnf) | (refine draw_i 0 plGL25f_11 (by decide +kernel) ?_; (conv => whnf); fail_if_success (guard_target =~ False)) | (refine draw_i 34 plGL25f_3 (by decide +kernel) ?_; (conv => whnf); fail_if_success (guard_target =~ False)) | (refine draw_i 34 plGL25f_4 (by decide +kernel) ?_; (conv => whnf); fail_if_success (guard_target =~ False)) | (refine draw_i 15 plGL25f_5 (by decide +kernel) ?_; (conv => whnf); fail_if_success (guard_target =~ False)) | (refine draw_i 15 plGL25f_6 (by decide +kernel) ?_; (conv => whnf); fail_if_success (guard_target =~ False)) | (refine draw_i 15 plGL25f_7 (by decide +kernel) ?_; (conv => whnf); fail_if_success (guard_target =~ False)) | (refine draw_i 20 plGL25f_8 (by decide +kernel) ?_; (conv => whnf); fail_if_success (guard_target =~ False)) | (refine draw_i 20 plGL25f_9 (by decide +kernel) ?_; (conv => whnf); fail_if_success (guard_target =~ False)) | (refine draw_i 0 plGL25f_10 (by decide +kernel) ?_; (conv => whnf); fail_if_success (guard_target =~ False)) | ((with_reducible refine And.intro ?_ ?_) <;> (conv => whnf)) | (with_reducible exact trivial) | ((with_reducible first | refine branch_d (fun hq => ?_) (fun hq => ?_) | refine branch_e (fun hq => ?_) (fun hq => ?_) | refine branch_n (fun hq => ?_) (fun hq => ?_) | refine branch_i (fun hq => ?_) (fun hq => ?_)) <;> (try (exfalso; omega)) <;> (conv => whnf))))
    refine loop_i2 (fun (m : Nat) (F : Flw) => m ≤ l.length ∧ unv l.length F ≤ f + 1 ∧ (∀ m, m < l.length → F.ld m ≤ lim m) ∧ searchF (elF l s) lim s.length l.length (f + 1) i s0 = tryM (elF l s) lim s.length (searchF (elF l s) lim s.length l.length f) i ((List.range l.length).drop m) F) (fun m F => mkSt [(0, .ptr 1000 0), (1, .int .i64 i), (2, seenV l F), (7, .int .i64 m), (1002, seenV l F)] [(1000, rflowC l s lim F)] false) (fun m _ => l.length - m) 0 s0 ⟨Nat.zero_le _, hu, hld, rfl⟩ (le_mk (by repeat' (first | exact trivial | rfl | apply And.intro)) (by repeat' (first | exact trivial | rfl | apply And.intro)) rfl) ?_
    rintro m F ⟨hm, hus, hls, hF⟩
    rcases Nat.lt_or_ge m l.length with hmK | hmK
    · have hb : F.ld m ≤ 1000 := Nat.le_trans (hls m hmK) (hlim m hmK)
      obtain ⟨mk, hmk⟩ : ∃ mk, l[m]? = some mk := ⟨_, List.getElem?_eq_getElem hmK⟩
      obtain ⟨x, hx⟩ : ∃ x, s[i]? = some x := ⟨_, List.getElem?_eq_getElem hi⟩
      have hfit := (fits_ok mk x (hl.all m mk hmk).len).mono fun r h => h.trans (by rw [← elF_at hx hmk])
      rw [List.drop_eq_getElem_cons (by simpa using hmK), List.getElem_range, tryM] at hF
      (conv => whnf); (repeat' (first | (refine arith_i ⟨by omega, by omega⟩ ?_; conv => whnf) | (refine arith_u ⟨by omega, by omega⟩ ?_; conv => whnf) | (refine arith_8 ⟨by omega, by omega⟩ ?_; conv => whnf) | (refine need_i (by first | omega | (simp only [List.length_cons, List.length_nil]; omega) | (simp only [List.length_append, List.length_cons, List.length_nil, List.length_map, List.length_replicate, List.length_modify]; omega)) ?_; conv => whnf) | ((with_reducible first | refine branch_tt ?_ | refine branch_ff ?_); conv => whnf) | (with_reducible refine branch_not ?_) | ((refine idx_f (m := m) rfl (by omega) ?_); conv => whnf) | ((refine idx_f (m := i) rfl (by omega) ?_); conv => whnf) | ((refine ridx_f (m := m) rfl (by omega) ?_); conv => whnf) | ((refine idx_cs hmk ?_); conv => whnf) | ((refine idx_cs hx ?_); conv => whnf) | ((refine call_e hfit ?_); conv => whnf) | ((with_reducible first | refine slc_e ?_ | refine callS_a ?_ | refine bld_a ?_ | refine own_e ?_ | refine mkmap_b ?_ | refine lnk_a ?_); conv => whnf) | (refine draw_i 34 plGL25f_12 (by decide +kernel) ?_; (conv => whnf); fail_if_success (guard_target =~ False)) | (refine draw_i 15 plGL25f_13 (by decide +kernel) ?_; (conv => whnf); fail_if_success (guard_target =~ False)) | (refine draw_i 20 plGL25f_14 (by decide +kernel) ?_; (conv => whnf); fail_if_success (guard_target =~ False)) | ((with_reducible refine And.intro ?_ ?_) <;> (conv => whnf)) | (with_reducible exact trivial) | ((with_reducible first | refine branch_d (fun hq => ?_) (fun hq => ?_) | refine branch_e (fun hq => ?_) (fun hq => ?_) | refine branch_n (fun hq => ?_) (fun hq => ?_) | refine branch_i (fun hq => ?_) (fun hq => ?_)) <;> (try (exfalso; omega)) <;> (conv => whnf))))
      all_goals first
        | exact ⟨m + 1, F, ⟨by omega, hus, hls, by rw [hF, if_pos (by simp [*])]⟩, (le_mk (by repeat' (first | exact trivial | rfl | apply And.intro)) (by repeat' (first | exact trivial | rfl | apply And.intro)) rfl), by omega⟩
        | skip
      · have hlt : F.ld m < lim m := by omega
        rw [if_neg (by simp [*]), if_pos hlt] at hF
        rw [hF]
        exact retM_i _ [(1002, seenV l ⟨setA F.A i m true, incL F.ld m, setV F.V m⟩)] [(1000, rflowC l s lim ⟨setA F.A i m true, incL F.ld m, setV F.V m⟩)] rfl (le_mk ⟨rfl, seen_eq (bs_set rfl), trivial⟩ ⟨rflow_eq (rowsC_set rfl rfl) (ns_inc rfl rfl), trivial⟩ rfl) rfl ⟨rfl, rfl, rfl⟩
      rw [if_neg (by simp [*]), if_neg (by omega)] at hF
      have hV : F.V m = false := by assumption
      have hum := unv_mark (A := F.A) (ld := F.ld) hmK hV
      refine loop_i2 (fun (j : Nat) (s' : Flw) => j ≤ s.length ∧ unv l.length s' ≤ f ∧ (∀ m, m < l.length → s'.ld m ≤ lim m) ∧ tryJ (searchF (elF l s) lim s.length l.length f) i m (List.range s.length) ⟨F.A, F.ld, setV F.V m⟩ = tryJ (searchF (elF l s) lim s.length l.length f) i m ((List.range s.length).drop j) s') (fun j s' => mkSt [(0, .ptr 1000 0), (1, .int .i64 i), (2, seenV l s'), (7, .int .i64 m), (8, .int .i64 j), (1002, seenV l s')] [(1000, rflowC l s lim s')] false) (fun j _ => s.length - j) 0 ⟨F.A, F.ld, setV F.V m⟩ ⟨Nat.zero_le _, by omega, hls, rfl⟩
        (le_mk ⟨rfl, rfl, seen_eq (bs_set rfl), rfl, rfl, seen_eq (bs_set rfl), trivial⟩ ⟨rfl, trivial⟩ rfl) ?_
      rintro j s' ⟨hj, hu', hl', hJ⟩
      rcases Nat.lt_or_ge j s.length with hjn | hjn
      · rw [List.drop_eq_getElem_cons (by simpa using hjn), List.getElem_range] at hJ
        (conv => whnf); (repeat' (first | (refine arith_i ⟨by omega, by omega⟩ ?_; conv => whnf) | (refine arith_u ⟨by omega, by omega⟩ ?_; conv => whnf) | (refine arith_8 ⟨by omega, by omega⟩ ?_; conv => whnf) | (refine need_i (by first | omega | (simp only [List.length_cons, List.length_nil]; omega) | (simp only [List.length_append, List.length_cons, List.length_nil, List.length_map, List.length_replicate, List.length_modify]; omega)) ?_; conv => whnf) | ((with_reducible first | refine branch_tt ?_ | refine branch_ff ?_); conv => whnf) | (with_reducible refine branch_not ?_) | ((refine idx_f (m := j) rfl (by omega) ?_); conv => whnf) | ((refine idx_f (m := i) rfl (by omega) ?_); conv => whnf) | ((refine ridx_f (m := m) rfl (by omega) ?_); conv => whnf) | ((refine ridx_setC (i := j) (m := m) rfl rfl (ridx_f (m := m) rfl (by omega) ?_)); conv => whnf) | ((refine idx_row (i := i) (j := j) rfl rfl (by omega) ?_); conv => whnf) | ((refine mcall_e [(1000, 1000)] [(1101, 1101), (1102, 1102), (1104, 1104)] (IH j s' (by omega) hu' hl') rfl rfl rfl ⟨⟨_, rfl, rfl, rfl⟩, trivial⟩ rfl ?_); conv => whnf) | ((with_reducible first | refine slc_e ?_ | refine callS_a ?_ | refine bld_a ?_ | refine own_e ?_ | refine mkmap_b ?_ | refine lnk_a ?_); conv => whnf) | (refine draw_i 34 plGL25f_12 (by decide +kernel) ?_; (conv => whnf); fail_if_success (guard_target =~ False)) | (refine draw_i 15 plGL25f_13 (by decide +kernel) ?_; (conv => whnf); fail_if_success (guard_target =~ False)) | (refine draw_i 20 plGL25f_14 (by decide +kernel) ?_; (conv => whnf); fail_if_success (guard_target =~ False)) | ((with_reducible refine And.intro ?_ ?_) <;> (conv => whnf)) | (with_reducible exact trivial) | ((with_reducible first | refine branch_d (fun hq => ?_) (fun hq => ?_) | refine branch_e (fun hq => ?_) (fun hq => ?_) | refine branch_n (fun hq => ?_) (fun hq => ?_) | refine branch_i (fun hq => ?_) (fun hq => ?_)) <;> (try (exfalso; omega)) <;> (conv => whnf))))
        · rw [tryJ_yes (by assumption) hq] at hJ
          rw [hJ] at hF
          rw [hF]
          exact retM_i _ [(1002, seenV l ⟨setA (setA (searchF (elF l s) lim s.length l.length f j s').2.A j m false) i m true, (searchF (elF l s) lim s.length l.length f j s').2.ld, (searchF (elF l s) lim s.length l.length f j s').2.V⟩)] [(1000, rflowC l s lim ⟨setA (setA (searchF (elF l s) lim s.length l.length f j s').2.A j m false) i m true, (searchF (elF l s) lim s.length l.length f j s').2.ld, (searchF (elF l s) lim s.length l.length f j s').2.V⟩)] rfl (le_mk ⟨rfl, rfl, trivial⟩ ⟨rflow_eq (rowsC_set2 rfl rfl rfl) rfl, trivial⟩ rfl) rfl ⟨rfl, rfl, rfl⟩
        · rw [tryJ_no (by assumption) hq] at hJ
          obtain ⟨hN, -⟩ := search_fail hu' (show searchF (elF l s) lim s.length l.length f j s' = (false, (searchF (elF l s) lim s.length l.length f j s').2) from Prod.ext hq rfl)
          exact ⟨j + 1, (searchF (elF l s) lim s.length l.length f j s').2, ⟨by omega, Nat.le_trans (unv_mono hN.V) hu', fun x hx => by rw [hN.ld]; exact hl' x hx, hJ⟩, (le_mk (by repeat' (first | exact trivial | rfl | apply And.intro)) (by repeat' (first | exact trivial | rfl | apply And.intro)) rfl), by omega⟩
        · rw [tryJ_skip hq] at hJ
          exact ⟨j + 1, s', ⟨by omega, hu', hl', hJ⟩, (le_mk (by repeat' (first | exact trivial | rfl | apply And.intro)) (by repeat' (first | exact trivial | rfl | apply And.intro)) rfl), by omega⟩
      · rw [List.drop_eq_nil_of_le (by simpa using hjn), tryJ] at hJ
        rw [hJ] at hF
        (conv => whnf); (repeat' (first | (refine arith_i ⟨by omega, by omega⟩ ?_; conv => whnf) | (refine arith_u ⟨by omega, by omega⟩ ?_; conv => whnf) | (refine arith_8 ⟨by omega, by omega⟩ ?_; conv => whnf) | (refine need_i (by first | omega | (simp only [List.length_cons, List.length_nil]; omega) | (simp only [List.length_append, List.length_cons, List.length_nil, List.length_map, List.length_replicate, List.length_modify]; omega)) ?_; conv => whnf) | ((with_reducible first | refine branch_tt ?_ | refine branch_ff ?_); conv => whnf) | (with_reducible refine branch_not ?_) | ((with_reducible first | refine slc_e ?_ | refine callS_a ?_ | refine bld_a ?_ | refine own_e ?_ | refine mkmap_b ?_ | refine lnk_a ?_); conv => whnf) | (refine draw_i 0 plGL25f_11 (by decide +kernel) ?_; (conv => whnf); fail_if_success (guard_target =~ False)) | (refine draw_i 34 plGL25f_3 (by decide +kernel) ?_; (conv => whnf); fail_if_success (guard_target =~ False)) | (refine draw_i 34 plGL25f_4 (by decide +kernel) ?_; (conv => whnf); fail_if_success (guard_target =~ False)) | (refine draw_i 15 plGL25f_5 (by decide +kernel) ?_; (conv => whnf); fail_if_success (guard_target =~ False)) | (refine draw_i 15 plGL25f_6 (by decide +kernel) ?_; (conv => whnf); fail_if_success (guard_target =~ False)) | (refine draw_i 15 plGL25f_7 (by decide +kernel) ?_; (conv => whnf); fail_if_success (guard_target =~ False)) | (refine draw_i 20 plGL25f_8 (by decide +kernel) ?_; (conv => whnf); fail_if_success (guard_target =~ False)) | (refine draw_i 20 plGL25f_9 (by decide +kernel) ?_; (conv => whnf); fail_if_success (guard_target =~ False)) | (refine draw_i 0 plGL25f_10 (by decide +kernel) ?_; (conv => whnf); fail_if_success (guard_target =~ False)) | ((with_reducible refine And.intro ?_ ?_) <;> (conv => whnf)) | (with_reducible exact trivial) | ((with_reducible first | refine branch_d (fun hq => ?_) (fun hq => ?_) | refine branch_e (fun hq => ?_) (fun hq => ?_) | refine branch_n (fun hq => ?_) (fun hq => ?_) | refine branch_i (fun hq => ?_) (fun hq => ?_)) <;> (try (exfalso; omega)) <;> (conv => whnf))))
        exact ⟨m + 1, s', ⟨by omega, by omega, hl', hF⟩, (le_mk (by repeat' (first | exact trivial | rfl | apply And.intro)) (by repeat' (first | exact trivial | rfl | apply And.intro)) rfl), by omega⟩
    · (conv => whnf); (repeat' (first | (refine arith_i ⟨by omega, by omega⟩ ?_; conv => whnf) | (refine arith_u ⟨by omega, by omega⟩ ?_; conv => whnf) | (refine arith_8 ⟨by omega, by omega⟩ ?_; conv => whnf) | (refine need_i (by first | omega | (simp only [List.length_cons, List.length_nil]; omega) | (simp only [List.length_append, List.length_cons, List.length_nil, List.length_map, List.length_replicate, List.length_modify]; omega)) ?_; conv => whnf) | ((with_reducible first | refine branch_tt ?_ | refine branch_ff ?_); conv => whnf) | (with_reducible refine branch_not ?_) | ((with_reducible first | refine slc_e ?_ | refine callS_a ?_ | refine bld_a ?_ | refine own_e ?_ | refine mkmap_b ?_ | refine lnk_a ?_); conv => whnf) | (refine draw_i 0 plGL25f_11 (by decide +kernel) ?_; (conv => whnf); fail_if_success (guard_target =~ False)) | (refine draw_i 34 plGL25f_3 (by decide +kernel) ?_; (conv => whnf); fail_if_success (guard_target =~ False)) | (refine draw_i 34 plGL25f_4 (by decide +kernel) ?_; (conv => whnf); fail_if_success (guard_target =~ False)) | (refine draw_i 15 plGL25f_5 (by decide +kernel) ?_; (conv => whnf); fail_if_success (guard_target =~ False)) | (refine draw_i 15 plGL25f_6 (by decide +kernel) ?_; (conv => whnf); fail_if_success (guard_target =~ False)) | (refine draw_i 15 plGL25f_7 (by decide +kernel) ?_; (conv => whnf); fail_if_success (guard_target =~ False)) | (refine draw_i 20 plGL25f_8 (by decide +kernel) ?_; (conv => whnf); fail_if_success (guard_target =~ False)) | (refine draw_i 20 plGL25f_9 (by decide +kernel) ?_; (conv => whnf); fail_if_success (guard_target =~ False)) | (refine draw_i 0 plGL25f_10 (by decide +kernel) ?_; (conv => whnf); fail_if_success (guard_target =~ False)) | ((with_reducible refine And.intro ?_ ?_) <;> (conv => whnf)) | (with_reducible exact trivial) | ((with_reducible first | refine branch_d (fun hq => ?_) (fun hq => ?_) | refine branch_e (fun hq => ?_) (fun hq => ?_) | refine branch_n (fun hq => ?_) (fun hq => ?_) | refine branch_i (fun hq => ?_) (fun hq => ?_)) <;> (try (exfalso; omega)) <;> (conv => whnf))))
      rw [List.drop_eq_nil_of_le (by simpa using hmK), tryM] at hF
      rw [hF]
      exact retM_i _ [(1002, seenV l F)] _ rfl (le_mk (by repeat' (first | exact trivial | rfl | apply And.intro)) (by repeat' (first | exact trivial | rfl | apply And.intro)) rfl) rfl ⟨rfl, rfl, rfl⟩
end Go.Proofs.Ythgnomniboindaa
end

/- Layer 24, 25: the reference's checks; Right. -/
section
namespace Go.Proofs.Ythgnomniboindaa
set_option linter.unusedVariables false
set_option linter.unusedSimpArgs false
set_option linter.unnecessarySimpa false
set_option linter.unusedSectionVars false
set_option maxRecDepth 10000
open Go.RowKit
def plGL25g_0 : Plan := (.take 0 (.take 1 (.take 2 (.take 3 (.take 4 (.take 5 (.take 6 (.take 7 (.take 8 (.take 9 (.take 10 (.take 11 .done))))))))))))
def plGL25g_1 : Plan := (.take 0 (.take 1 (.take 2 (.take 3 (.take 5 (.take 6 (.take 7 (.take 8 (.take 9 (.alt 4 (.alt 10 (.take 11 .done) .stop) (.alt 10 (.alt 4 (.take 11 .done) .stop) .stop)))))))))))
def plGL25g_2 : Plan := (.take 0 (.take 2 (.take 5 (.take 7 (.take 8 (.alt 1 (.take 3 (.alt 4 (.alt 6 (.take 9 (.alt 10 (.take 11 .done) .stop)) .stop) (.alt 6 (.take 9 (.alt 4 (.alt 10 (.take 11 .done) .stop) (.alt 10 (.alt 4 (.take 11 .done) .stop) .stop))) .stop))) (.alt 6 (.take 9 (.alt 1 (.take 3 (.alt 4 (.alt 10 (.take 11 .done) .stop) (.alt 10 (.alt 4 (.take 11 .done) .stop) .stop))) (.alt 10 (.alt 1 (.take 3 (.alt 4 (.take 11 .done) .stop)) .stop) .stop))) .stop)))))))
def plGL25g_3 : Plan := (.take 0 (.take 1 (.take 2 (.take 3 (.take 4 (.take 5 (.take 6 (.take 7 (.take 8 (.take 9 (.take 10 (.take 11 (.take 12 .done)))))))))))))
def plGL25g_4 : Plan := (.take 0 (.take 1 (.take 2 (.take 3 (.take 4 (.take 5 (.take 6 (.take 7 (.take 8 (.take 9 (.alt 10 (.take 11 (.take 12 .done)) .stop)))))))))))
def plGL25g_5 : Plan := (.take 0 (.take 1 (.take 2 (.take 3 (.take 5 (.take 6 (.take 7 (.take 8 (.take 9 (.alt 4 (.alt 10 (.take 11 (.take 12 .done)) .stop) (.alt 10 (.alt 4 (.take 11 (.take 12 .done)) .stop) .stop)))))))))))
def plGL25g_6 : Plan := (.take 0 (.take 1 (.take 2 (.take 3 (.take 4 (.take 5 (.take 6 (.take 7 (.take 8 (.take 9 (.take 10 (.take 11 (.take 12 (.take 13 .done))))))))))))))
def plGL25g_7 : Plan := (.take 0 (.take 1 (.take 2 (.take 3 (.take 4 (.take 5 (.take 6 (.take 7 (.take 8 (.take 9 (.alt 10 (.take 11 (.take 12 (.take 13 .done))) .stop)))))))))))
def plGL25g_8 : Plan := (.take 0 (.take 1 (.take 2 (.take 3 (.take 5 (.take 6 (.take 7 (.take 8 (.take 9 (.alt 4 (.alt 10 (.take 11 (.take 12 (.take 13 .done))) .stop) (.alt 10 (.alt 4 (.take 11 (.take 12 (.take 13 .done))) .stop) .stop)))))))))))
def inB (n lo hi : Int) : Bool := decide (lo ≤ n) && decide (n ≤ hi)
theorem in_ok (n lo hi : Int) : Good Try.prog TT false 61 [.int .i64 n, .int .i64 lo, .int .i64 hi] (· = .bool (inB n lo hi)) := by
  refine good_of mixed tabOk Try.func61 rfl rfl Try.ntmps61 Try.results61 rfl rfl ?_
  (conv => whnf); (repeat' (first | (refine arith_i ⟨by omega, by omega⟩ ?_; conv => whnf) | (refine arith_u ⟨by omega, by omega⟩ ?_; conv => whnf) | (refine arith_8 ⟨by omega, by omega⟩ ?_; conv => whnf) | (refine need_i (by first | omega | (simp only [List.length_cons, List.length_nil]; omega) | (simp only [List.length_append, List.length_cons, List.length_nil, List.length_map, List.length_replicate, List.length_modify]; omega)) ?_; conv => whnf) | ((with_reducible first | refine branch_tt ?_ | refine branch_ff ?_); conv => whnf) | (with_reducible refine branch_not ?_) | ((with_reducible first | refine slc_e ?_ | refine callS_a ?_ | refine bld_a ?_ | refine own_e ?_ | refine mkmap_b ?_ | refine lnk_a ?_); conv => whnf) | ((with_reducible first | refine branch_d (fun hq => ?_) (fun hq => ?_) | refine branch_e (fun hq => ?_) (fun hq => ?_) | refine branch_n (fun hq => ?_) (fun hq => ?_) | refine branch_i (fun hq => ?_) (fun hq => ?_)) <;> (try (exfalso; omega)) <;> (conv => whnf))))
  all_goals exact ret_p rfl (bool_eq (by simp [inB]; omega))
theorem in_yes {n lo hi : Int} (h : lo ≤ n ∧ n ≤ hi) : Good Try.prog TT false 61 [.int .i64 n, .int .i64 lo, .int .i64 hi] (· = .bool true) := (in_ok n lo hi).mono fun r e => e.trans (bool_eq (by simp [inB]; omega))
set_option maxHeartbeats 4000000 in
theorem rCheck_ok (l : List Mrk) (hl : MksOk l) : Good Try.prog TT false 49 [mrksV l] (· = .int .i64 0) := by
  have LL : (l.map encM).length = l.length := List.length_map ..
  have h16 := hl.len
  refine good_of mixed tabOk Try.func49 rfl rfl Try.ntmps49 Try.results49 rfl rfl ?_
  (conv => whnf); (repeat' (first | (refine arith_i ⟨by omega, by omega⟩ ?_; conv => whnf) | (refine arith_u ⟨by omega, by omega⟩ ?_; conv => whnf) | (refine arith_8 ⟨by omega, by omega⟩ ?_; conv => whnf) | (refine need_i (by first | omega | (simp only [List.length_cons, List.length_nil]; omega) | (simp only [List.length_append, List.length_cons, List.length_nil, List.length_map, List.length_replicate, List.length_modify]; omega)) ?_; conv => whnf) | ((with_reducible first | refine branch_tt ?_ | refine branch_ff ?_); conv => whnf) | (with_reducible refine branch_not ?_) | ((with_reducible first | refine slc_e ?_ | refine callS_a ?_ | refine bld_a ?_ | refine own_e ?_ | refine mkmap_b ?_ | refine lnk_a ?_); conv => whnf) | (refine draw_i 12 plGL25g_0 (by decide +kernel) ?_; (conv => whnf); fail_if_success (guard_target =~ False)) | (refine draw_i 12 plGL25g_1 (by decide +kernel) ?_; (conv => whnf); fail_if_success (guard_target =~ False)) | (refine draw_i 12 plGL25g_2 (by decide +kernel) ?_; (conv => whnf); fail_if_success (guard_target =~ False)) | (refine draw_i 13 plGL25g_3 (by decide +kernel) ?_; (conv => whnf); fail_if_success (guard_target =~ False)) | (refine draw_i 13 plGL25g_4 (by decide +kernel) ?_; (conv => whnf); fail_if_success (guard_target =~ False)) | (refine draw_i 13 plGL25g_5 (by decide +kernel) ?_; (conv => whnf); fail_if_success (guard_target =~ False)) | ((with_reducible refine And.intro ?_ ?_) <;> (conv => whnf)) | (with_reducible exact trivial) | ((with_reducible first | refine branch_d (fun hq => ?_) (fun hq => ?_) | refine branch_e (fun hq => ?_) (fun hq => ?_) | refine branch_n (fun hq => ?_) (fun hq => ?_) | refine branch_i (fun hq => ?_) (fun hq => ?_)) <;> (try (exfalso; omega)) <;> (conv => whnf))))
  refine loop_i (fun i : Nat => i ≤ l.length) (fun i => mkSt [(0, mrksV l), (3, .int .i64 i)] [] false) (fun i => l.length - i) 0 (Nat.zero_le _) (le_mk (by repeat' (first | exact trivial | rfl | apply And.intro)) (by repeat' (first | exact trivial | rfl | apply And.intro)) rfl) ?_
  intro i hi
  rcases Nat.lt_or_ge i l.length with hil | hil
  · obtain ⟨m, hm⟩ : ∃ m, l[i]? = some m := ⟨_, List.getElem?_eq_getElem hil⟩
    have g := hl.all i m hm
    have LP : (m.papers.map encI).length = m.papers.length := List.length_map ..
    have hpl := g.len
    (conv => whnf); (repeat' (first | (refine arith_i ⟨by omega, by omega⟩ ?_; conv => whnf) | (refine arith_u ⟨by omega, by omega⟩ ?_; conv => whnf) | (refine arith_8 ⟨by omega, by omega⟩ ?_; conv => whnf) | (refine need_i (by first | omega | (simp only [List.length_cons, List.length_nil]; omega) | (simp only [List.length_append, List.length_cons, List.length_nil, List.length_map, List.length_replicate, List.length_modify]; omega)) ?_; conv => whnf) | ((with_reducible first | refine branch_tt ?_ | refine branch_ff ?_); conv => whnf) | (with_reducible refine branch_not ?_) | ((refine idx_cs hm ?_); conv => whnf) | ((refine call_e (in_yes g.id) ?_); conv => whnf) | ((refine call_e (in_yes g.centre) ?_); conv => whnf) | ((refine call_e (in_yes g.level) ?_); conv => whnf) | ((refine call_e (in_yes g.cap) ?_); conv => whnf) | ((with_reducible first | refine slc_e ?_ | refine callS_a ?_ | refine bld_a ?_ | refine own_e ?_ | refine mkmap_b ?_ | refine lnk_a ?_); conv => whnf) | (refine draw_i 12 plGL25g_0 (by decide +kernel) ?_; (conv => whnf); fail_if_success (guard_target =~ False)) | (refine draw_i 12 plGL25g_1 (by decide +kernel) ?_; (conv => whnf); fail_if_success (guard_target =~ False)) | (refine draw_i 12 plGL25g_2 (by decide +kernel) ?_; (conv => whnf); fail_if_success (guard_target =~ False)) | (refine draw_i 13 plGL25g_3 (by decide +kernel) ?_; (conv => whnf); fail_if_success (guard_target =~ False)) | (refine draw_i 13 plGL25g_4 (by decide +kernel) ?_; (conv => whnf); fail_if_success (guard_target =~ False)) | (refine draw_i 13 plGL25g_5 (by decide +kernel) ?_; (conv => whnf); fail_if_success (guard_target =~ False)) | ((with_reducible refine And.intro ?_ ?_) <;> (conv => whnf)) | (with_reducible exact trivial) | ((with_reducible first | refine branch_d (fun hq => ?_) (fun hq => ?_) | refine branch_e (fun hq => ?_) (fun hq => ?_) | refine branch_n (fun hq => ?_) (fun hq => ?_) | refine branch_i (fun hq => ?_) (fun hq => ?_)) <;> (try (exfalso; omega)) <;> (conv => whnf))))
    refine loop_i (fun k : Nat => k ≤ m.papers.length) (fun k => mkSt [(0, mrksV l), (3, .int .i64 i), (4, .ptr 4 0), (5, .int .i64 k)] [(4, encM m)] false) (fun k => m.papers.length - k) 0 (Nat.zero_le _) (le_mk (by repeat' (first | exact trivial | rfl | apply And.intro)) (by repeat' (first | exact trivial | rfl | apply And.intro)) rfl) ?_
    intro k hk
    rcases Nat.lt_or_ge k m.papers.length with hkl | hkl
    · obtain ⟨p, hp⟩ : ∃ p, m.papers[k]? = some p := ⟨_, List.getElem?_eq_getElem hkl⟩
      have hpb : 0 ≤ p ∧ p ≤ 31 := by have := g.pap k p hp; simpa [papB] using this
      (conv => whnf); (repeat' (first | (refine arith_i ⟨by omega, by omega⟩ ?_; conv => whnf) | (refine arith_u ⟨by omega, by omega⟩ ?_; conv => whnf) | (refine arith_8 ⟨by omega, by omega⟩ ?_; conv => whnf) | (refine need_i (by first | omega | (simp only [List.length_cons, List.length_nil]; omega) | (simp only [List.length_append, List.length_cons, List.length_nil, List.length_map, List.length_replicate, List.length_modify]; omega)) ?_; conv => whnf) | ((with_reducible first | refine branch_tt ?_ | refine branch_ff ?_); conv => whnf) | (with_reducible refine branch_not ?_) | ((refine idx_cs hp ?_); conv => whnf) | ((refine call_e (in_yes hpb) ?_); conv => whnf) | ((with_reducible first | refine slc_e ?_ | refine callS_a ?_ | refine bld_a ?_ | refine own_e ?_ | refine mkmap_b ?_ | refine lnk_a ?_); conv => whnf) | (refine draw_i 12 plGL25g_0 (by decide +kernel) ?_; (conv => whnf); fail_if_success (guard_target =~ False)) | (refine draw_i 12 plGL25g_1 (by decide +kernel) ?_; (conv => whnf); fail_if_success (guard_target =~ False)) | (refine draw_i 12 plGL25g_2 (by decide +kernel) ?_; (conv => whnf); fail_if_success (guard_target =~ False)) | (refine draw_i 13 plGL25g_3 (by decide +kernel) ?_; (conv => whnf); fail_if_success (guard_target =~ False)) | (refine draw_i 13 plGL25g_4 (by decide +kernel) ?_; (conv => whnf); fail_if_success (guard_target =~ False)) | (refine draw_i 13 plGL25g_5 (by decide +kernel) ?_; (conv => whnf); fail_if_success (guard_target =~ False)) | ((with_reducible refine And.intro ?_ ?_) <;> (conv => whnf)) | (with_reducible exact trivial) | ((with_reducible first | refine branch_d (fun hq => ?_) (fun hq => ?_) | refine branch_e (fun hq => ?_) (fun hq => ?_) | refine branch_n (fun hq => ?_) (fun hq => ?_) | refine branch_i (fun hq => ?_) (fun hq => ?_)) <;> (try (exfalso; omega)) <;> (conv => whnf))))
      exact ⟨k + 1, by omega, (le_mk (by repeat' (first | exact trivial | rfl | apply And.intro)) (by repeat' (first | exact trivial | rfl | apply And.intro)) rfl), by omega⟩
    (conv => whnf); (repeat' (first | (refine arith_i ⟨by omega, by omega⟩ ?_; conv => whnf) | (refine arith_u ⟨by omega, by omega⟩ ?_; conv => whnf) | (refine arith_8 ⟨by omega, by omega⟩ ?_; conv => whnf) | (refine need_i (by first | omega | (simp only [List.length_cons, List.length_nil]; omega) | (simp only [List.length_append, List.length_cons, List.length_nil, List.length_map, List.length_replicate, List.length_modify]; omega)) ?_; conv => whnf) | ((with_reducible first | refine branch_tt ?_ | refine branch_ff ?_); conv => whnf) | (with_reducible refine branch_not ?_) | ((with_reducible first | refine slc_e ?_ | refine callS_a ?_ | refine bld_a ?_ | refine own_e ?_ | refine mkmap_b ?_ | refine lnk_a ?_); conv => whnf) | (refine draw_i 12 plGL25g_0 (by decide +kernel) ?_; (conv => whnf); fail_if_success (guard_target =~ False)) | (refine draw_i 12 plGL25g_1 (by decide +kernel) ?_; (conv => whnf); fail_if_success (guard_target =~ False)) | (refine draw_i 12 plGL25g_2 (by decide +kernel) ?_; (conv => whnf); fail_if_success (guard_target =~ False)) | (refine draw_i 13 plGL25g_3 (by decide +kernel) ?_; (conv => whnf); fail_if_success (guard_target =~ False)) | (refine draw_i 13 plGL25g_4 (by decide +kernel) ?_; (conv => whnf); fail_if_success (guard_target =~ False)) | (refine draw_i 13 plGL25g_5 (by decide +kernel) ?_; (conv => whnf); fail_if_success (guard_target =~ False)) | ((with_reducible refine And.intro ?_ ?_) <;> (conv => whnf)) | (with_reducible exact trivial) | ((with_reducible first | refine branch_d (fun hq => ?_) (fun hq => ?_) | refine branch_e (fun hq => ?_) (fun hq => ?_) | refine branch_n (fun hq => ?_) (fun hq => ?_) | refine branch_i (fun hq => ?_) (fun hq => ?_)) <;> (try (exfalso; omega)) <;> (conv => whnf))))
    refine loop_i (fun k : Nat => 1 ≤ k) (fun k => mkSt [(0, mrksV l), (3, .int .i64 i), (4, .ptr 4 0), (6, .int .i64 k)] [(4, encM m)] false) (fun k => m.papers.length - k) 1 (Nat.le_refl _) (le_mk (by repeat' (first | exact trivial | rfl | apply And.intro)) (by repeat' (first | exact trivial | rfl | apply And.intro)) rfl) ?_
    intro k hk1
    rcases Nat.lt_or_ge k m.papers.length with hkl2 | hkl2
    · obtain ⟨p, hp⟩ : ∃ p, m.papers[k]? = some p := ⟨_, List.getElem?_eq_getElem hkl2⟩
      obtain ⟨p', hp'⟩ : ∃ p, m.papers[((k : Int) - 1).toNat]? = some p := ⟨_, List.getElem?_eq_getElem (show ((k : Int) - 1).toNat < m.papers.length by omega)⟩
      have hlt : p' < p := by
        have := g.asc k (by omega) hkl2
        rw [nth_eq hp] at this
        rw [show k - 1 = ((k : Int) - 1).toNat by omega, nth_eq hp'] at this
        exact this
      (conv => whnf); (repeat' (first | (refine arith_i ⟨by omega, by omega⟩ ?_; conv => whnf) | (refine arith_u ⟨by omega, by omega⟩ ?_; conv => whnf) | (refine arith_8 ⟨by omega, by omega⟩ ?_; conv => whnf) | (refine need_i (by first | omega | (simp only [List.length_cons, List.length_nil]; omega) | (simp only [List.length_append, List.length_cons, List.length_nil, List.length_map, List.length_replicate, List.length_modify]; omega)) ?_; conv => whnf) | ((with_reducible first | refine branch_tt ?_ | refine branch_ff ?_); conv => whnf) | (with_reducible refine branch_not ?_) | ((refine idx_cs hp ?_); conv => whnf) | ((refine idx_ms (by omega) hp' ?_); conv => whnf) | ((with_reducible first | refine slc_e ?_ | refine callS_a ?_ | refine bld_a ?_ | refine own_e ?_ | refine mkmap_b ?_ | refine lnk_a ?_); conv => whnf) | (refine draw_i 12 plGL25g_0 (by decide +kernel) ?_; (conv => whnf); fail_if_success (guard_target =~ False)) | (refine draw_i 12 plGL25g_1 (by decide +kernel) ?_; (conv => whnf); fail_if_success (guard_target =~ False)) | (refine draw_i 12 plGL25g_2 (by decide +kernel) ?_; (conv => whnf); fail_if_success (guard_target =~ False)) | (refine draw_i 13 plGL25g_3 (by decide +kernel) ?_; (conv => whnf); fail_if_success (guard_target =~ False)) | (refine draw_i 13 plGL25g_4 (by decide +kernel) ?_; (conv => whnf); fail_if_success (guard_target =~ False)) | (refine draw_i 13 plGL25g_5 (by decide +kernel) ?_; (conv => whnf); fail_if_success (guard_target =~ False)) | ((with_reducible refine And.intro ?_ ?_) <;> (conv => whnf)) | (with_reducible exact trivial) | ((with_reducible first | refine branch_d (fun hq => ?_) (fun hq => ?_) | refine branch_e (fun hq => ?_) (fun hq => ?_) | refine branch_n (fun hq => ?_) (fun hq => ?_) | refine branch_i (fun hq => ?_) (fun hq => ?_)) <;> (try (exfalso; omega)) <;> (conv => whnf))))
      all_goals first
        | exact ⟨k + 1, by omega, (le_mk (by repeat' (first | exact trivial | rfl | apply And.intro)) (by repeat' (first | exact trivial | rfl | apply And.intro)) rfl), by omega⟩
        | (exfalso; omega)
    have hprev : ∀ m', l[((i : Int) - 1).toNat]? = some m' → 0 < i → m'.id < m.id := fun m' h h0 => hl.asc _ i m' m (by omega) h hm
    (conv => whnf); (repeat' (first | (refine arith_i ⟨by omega, by omega⟩ ?_; conv => whnf) | (refine arith_u ⟨by omega, by omega⟩ ?_; conv => whnf) | (refine arith_8 ⟨by omega, by omega⟩ ?_; conv => whnf) | (refine need_i (by first | omega | (simp only [List.length_cons, List.length_nil]; omega) | (simp only [List.length_append, List.length_cons, List.length_nil, List.length_map, List.length_replicate, List.length_modify]; omega)) ?_; conv => whnf) | ((with_reducible first | refine branch_tt ?_ | refine branch_ff ?_); conv => whnf) | (with_reducible refine branch_not ?_) | ((refine idx_cs hm ?_); conv => whnf) | (((refine idx_m (xs := l) (by omega) (by omega) fun m' hm' => ?_; have hlt := hprev m' hm' (by omega))); conv => whnf) | ((with_reducible first | refine slc_e ?_ | refine callS_a ?_ | refine bld_a ?_ | refine own_e ?_ | refine mkmap_b ?_ | refine lnk_a ?_); conv => whnf) | (refine draw_i 12 plGL25g_0 (by decide +kernel) ?_; (conv => whnf); fail_if_success (guard_target =~ False)) | (refine draw_i 12 plGL25g_1 (by decide +kernel) ?_; (conv => whnf); fail_if_success (guard_target =~ False)) | (refine draw_i 12 plGL25g_2 (by decide +kernel) ?_; (conv => whnf); fail_if_success (guard_target =~ False)) | (refine draw_i 13 plGL25g_3 (by decide +kernel) ?_; (conv => whnf); fail_if_success (guard_target =~ False)) | (refine draw_i 13 plGL25g_4 (by decide +kernel) ?_; (conv => whnf); fail_if_success (guard_target =~ False)) | (refine draw_i 13 plGL25g_5 (by decide +kernel) ?_; (conv => whnf); fail_if_success (guard_target =~ False)) | ((with_reducible refine And.intro ?_ ?_) <;> (conv => whnf)) | (with_reducible exact trivial) | ((with_reducible first | refine branch_d (fun hq => ?_) (fun hq => ?_) | refine branch_e (fun hq => ?_) (fun hq => ?_) | refine branch_n (fun hq => ?_) (fun hq => ?_) | refine branch_i (fun hq => ?_) (fun hq => ?_)) <;> (try (exfalso; omega)) <;> (conv => whnf))))
    all_goals first
      | exact ⟨i + 1, by omega, (le_mk (by repeat' (first | exact trivial | rfl | apply And.intro)) (by repeat' (first | exact trivial | rfl | apply And.intro)) rfl), by omega⟩
      | (exfalso; omega)
  · (conv => whnf); (repeat' (first | (refine arith_i ⟨by omega, by omega⟩ ?_; conv => whnf) | (refine arith_u ⟨by omega, by omega⟩ ?_; conv => whnf) | (refine arith_8 ⟨by omega, by omega⟩ ?_; conv => whnf) | (refine need_i (by first | omega | (simp only [List.length_cons, List.length_nil]; omega) | (simp only [List.length_append, List.length_cons, List.length_nil, List.length_map, List.length_replicate, List.length_modify]; omega)) ?_; conv => whnf) | ((with_reducible first | refine branch_tt ?_ | refine branch_ff ?_); conv => whnf) | (with_reducible refine branch_not ?_) | ((with_reducible first | refine slc_e ?_ | refine callS_a ?_ | refine bld_a ?_ | refine own_e ?_ | refine mkmap_b ?_ | refine lnk_a ?_); conv => whnf) | (refine draw_i 12 plGL25g_0 (by decide +kernel) ?_; (conv => whnf); fail_if_success (guard_target =~ False)) | (refine draw_i 12 plGL25g_1 (by decide +kernel) ?_; (conv => whnf); fail_if_success (guard_target =~ False)) | (refine draw_i 12 plGL25g_2 (by decide +kernel) ?_; (conv => whnf); fail_if_success (guard_target =~ False)) | (refine draw_i 13 plGL25g_3 (by decide +kernel) ?_; (conv => whnf); fail_if_success (guard_target =~ False)) | (refine draw_i 13 plGL25g_4 (by decide +kernel) ?_; (conv => whnf); fail_if_success (guard_target =~ False)) | (refine draw_i 13 plGL25g_5 (by decide +kernel) ?_; (conv => whnf); fail_if_success (guard_target =~ False)) | ((with_reducible refine And.intro ?_ ?_) <;> (conv => whnf)) | (with_reducible exact trivial) | ((with_reducible first | refine branch_d (fun hq => ?_) (fun hq => ?_) | refine branch_e (fun hq => ?_) (fun hq => ?_) | refine branch_n (fun hq => ?_) (fun hq => ?_) | refine branch_i (fun hq => ?_) (fun hq => ?_)) <;> (try (exfalso; omega)) <;> (conv => whnf))))
    exact ret_p rfl rfl
set_option maxHeartbeats 4000000 in
theorem rCheckS_ok (s : List Scr) (hs : ScsOk s) : Good Try.prog TT false 43 [scrsV s] (· = .int .i64 0) := by
  have LS : (s.map encR).length = s.length := List.length_map ..
  have h60 := hs.len
  refine good_of mixed tabOk Try.func43 rfl rfl Try.ntmps43 Try.results43 rfl rfl ?_
  (conv => whnf); (repeat' (first | (refine arith_i ⟨by omega, by omega⟩ ?_; conv => whnf) | (refine arith_u ⟨by omega, by omega⟩ ?_; conv => whnf) | (refine arith_8 ⟨by omega, by omega⟩ ?_; conv => whnf) | (refine need_i (by first | omega | (simp only [List.length_cons, List.length_nil]; omega) | (simp only [List.length_append, List.length_cons, List.length_nil, List.length_map, List.length_replicate, List.length_modify]; omega)) ?_; conv => whnf) | ((with_reducible first | refine branch_tt ?_ | refine branch_ff ?_); conv => whnf) | (with_reducible refine branch_not ?_) | ((with_reducible first | refine slc_e ?_ | refine callS_a ?_ | refine bld_a ?_ | refine own_e ?_ | refine mkmap_b ?_ | refine lnk_a ?_); conv => whnf) | (refine draw_i 14 plGL25g_6 (by decide +kernel) ?_; (conv => whnf); fail_if_success (guard_target =~ False)) | (refine draw_i 14 plGL25g_7 (by decide +kernel) ?_; (conv => whnf); fail_if_success (guard_target =~ False)) | (refine draw_i 14 plGL25g_8 (by decide +kernel) ?_; (conv => whnf); fail_if_success (guard_target =~ False)) | ((with_reducible refine And.intro ?_ ?_) <;> (conv => whnf)) | (with_reducible exact trivial) | ((with_reducible first | refine branch_d (fun hq => ?_) (fun hq => ?_) | refine branch_e (fun hq => ?_) (fun hq => ?_) | refine branch_n (fun hq => ?_) (fun hq => ?_) | refine branch_i (fun hq => ?_) (fun hq => ?_)) <;> (try (exfalso; omega)) <;> (conv => whnf))))
  refine loop_i (fun i : Nat => i ≤ s.length) (fun i => mkSt [(0, scrsV s), (3, .int .i64 i)] [] false) (fun i => s.length - i) 0 (Nat.zero_le _) (le_mk (by repeat' (first | exact trivial | rfl | apply And.intro)) (by repeat' (first | exact trivial | rfl | apply And.intro)) rfl) ?_
  intro i hi
  rcases Nat.lt_or_ge i s.length with hil | hil
  · obtain ⟨x, hx⟩ : ∃ x, s[i]? = some x := ⟨_, List.getElem?_eq_getElem hil⟩
    obtain ⟨g, hpg⟩ := hs.all i x hx
    have LP : (x.pages.map encI).length = x.pages.length := List.length_map ..
    have hpb : 0 ≤ x.paper ∧ x.paper ≤ 31 := by have := g.paper; simpa [papB] using this
    have hnum := g.number
    have hprev : ∀ m', s[((i : Int) - 1).toNat]? = some m' → 0 < i → m'.number < x.number := fun m' h h0 => hs.asc _ m' x h (by rw [show ((i : Int) - 1).toNat + 1 = i by omega]; exact hx)
    have hcd := g.cand
    (conv => whnf); (repeat' (first | (refine arith_i ⟨by omega, by omega⟩ ?_; conv => whnf) | (refine arith_u ⟨by omega, by omega⟩ ?_; conv => whnf) | (refine arith_8 ⟨by omega, by omega⟩ ?_; conv => whnf) | (refine need_i (by first | omega | (simp only [List.length_cons, List.length_nil]; omega) | (simp only [List.length_append, List.length_cons, List.length_nil, List.length_map, List.length_replicate, List.length_modify]; omega)) ?_; conv => whnf) | ((with_reducible first | refine branch_tt ?_ | refine branch_ff ?_); conv => whnf) | (with_reducible refine branch_not ?_) | ((refine idx_cs hx ?_); conv => whnf) | ((refine call_e (in_yes hpb) ?_); conv => whnf) | ((refine call_e (in_yes g.cand) ?_); conv => whnf) | ((refine call_e (in_yes g.centre) ?_); conv => whnf) | ((refine call_e (in_yes g.variant) ?_); conv => whnf) | (((refine idx_m (xs := s) (by omega) (by omega) fun m' hm' => ?_; have hlt := hprev m' hm' (by omega))); conv => whnf) | ((with_reducible first | refine slc_e ?_ | refine callS_a ?_ | refine bld_a ?_ | refine own_e ?_ | refine mkmap_b ?_ | refine lnk_a ?_); conv => whnf) | (refine draw_i 14 plGL25g_6 (by decide +kernel) ?_; (conv => whnf); fail_if_success (guard_target =~ False)) | (refine draw_i 14 plGL25g_7 (by decide +kernel) ?_; (conv => whnf); fail_if_success (guard_target =~ False)) | (refine draw_i 14 plGL25g_8 (by decide +kernel) ?_; (conv => whnf); fail_if_success (guard_target =~ False)) | ((with_reducible refine And.intro ?_ ?_) <;> (conv => whnf)) | (with_reducible exact trivial) | ((with_reducible first | refine branch_d (fun hq => ?_) (fun hq => ?_) | refine branch_e (fun hq => ?_) (fun hq => ?_) | refine branch_n (fun hq => ?_) (fun hq => ?_) | refine branch_i (fun hq => ?_) (fun hq => ?_)) <;> (try (exfalso; omega)) <;> (conv => whnf))))
    all_goals first
      | exact ⟨i + 1, by omega, (le_mk (by repeat' (first | exact trivial | rfl | apply And.intro)) (by repeat' (first | exact trivial | rfl | apply And.intro)) rfl), by omega⟩
      | (exfalso; omega)
  · (conv => whnf); (repeat' (first | (refine arith_i ⟨by omega, by omega⟩ ?_; conv => whnf) | (refine arith_u ⟨by omega, by omega⟩ ?_; conv => whnf) | (refine arith_8 ⟨by omega, by omega⟩ ?_; conv => whnf) | (refine need_i (by first | omega | (simp only [List.length_cons, List.length_nil]; omega) | (simp only [List.length_append, List.length_cons, List.length_nil, List.length_map, List.length_replicate, List.length_modify]; omega)) ?_; conv => whnf) | ((with_reducible first | refine branch_tt ?_ | refine branch_ff ?_); conv => whnf) | (with_reducible refine branch_not ?_) | ((with_reducible first | refine slc_e ?_ | refine callS_a ?_ | refine bld_a ?_ | refine own_e ?_ | refine mkmap_b ?_ | refine lnk_a ?_); conv => whnf) | (refine draw_i 14 plGL25g_6 (by decide +kernel) ?_; (conv => whnf); fail_if_success (guard_target =~ False)) | (refine draw_i 14 plGL25g_7 (by decide +kernel) ?_; (conv => whnf); fail_if_success (guard_target =~ False)) | (refine draw_i 14 plGL25g_8 (by decide +kernel) ?_; (conv => whnf); fail_if_success (guard_target =~ False)) | ((with_reducible refine And.intro ?_ ?_) <;> (conv => whnf)) | (with_reducible exact trivial) | ((with_reducible first | refine branch_d (fun hq => ?_) (fun hq => ?_) | refine branch_e (fun hq => ?_) (fun hq => ?_) | refine branch_n (fun hq => ?_) (fun hq => ?_) | refine branch_i (fun hq => ?_) (fun hq => ?_)) <;> (try (exfalso; omega)) <;> (conv => whnf))))
    exact ret_p rfl rfl
theorem rRight_ok (l : List Mrk) (s : List Scr) (k : Int) (hl : MksOk l) (hs : ScsOk s) : Good Try.prog TT false 31 [mrksV l, scrsV s, .int .i64 k] (· = .bool (okK k)) := by
  refine good_of mixed tabOk Try.func31 rfl rfl Try.ntmps31 Try.results31 rfl rfl ?_
  (conv => whnf); (repeat' (first | (refine arith_i ⟨by omega, by omega⟩ ?_; conv => whnf) | (refine arith_u ⟨by omega, by omega⟩ ?_; conv => whnf) | (refine arith_8 ⟨by omega, by omega⟩ ?_; conv => whnf) | (refine need_i (by first | omega | (simp only [List.length_cons, List.length_nil]; omega) | (simp only [List.length_append, List.length_cons, List.length_nil, List.length_map, List.length_replicate, List.length_modify]; omega)) ?_; conv => whnf) | ((with_reducible first | refine branch_tt ?_ | refine branch_ff ?_); conv => whnf) | (with_reducible refine branch_not ?_) | ((refine call_e (rCheck_ok l hl) ?_); conv => whnf) | ((refine call_e (rCheckS_ok s hs) ?_); conv => whnf) | ((with_reducible first | refine slc_e ?_ | refine callS_a ?_ | refine bld_a ?_ | refine own_e ?_ | refine mkmap_b ?_ | refine lnk_a ?_); conv => whnf) | ((with_reducible first | refine branch_d (fun hq => ?_) (fun hq => ?_) | refine branch_e (fun hq => ?_) (fun hq => ?_) | refine branch_n (fun hq => ?_) (fun hq => ?_) | refine branch_i (fun hq => ?_) (fun hq => ?_)) <;> (try (exfalso; omega)) <;> (conv => whnf))))
  all_goals first
    | exact ret_p rfl (bool_eq (show true = okK k by simp [okK]; omega))
    | exact ret_p rfl (bool_eq (by rw [Bool.eq_iff_iff]; simp [okK]; omega))
end Go.Proofs.Ythgnomniboindaa
end

/- Layer 25: the dice's Pick and Bool, the generator of markers, with all that Check asks for. -/
section
namespace Go.Proofs.Ythgnomniboindaa
set_option linter.unusedVariables false
set_option linter.unusedSimpArgs false
set_option linter.unnecessarySimpa false
set_option linter.unusedSectionVars false
set_option maxRecDepth 10000
open Go.RowKit

theorem pick_ok (xs : List Int) (h0 : 0 < xs.length) (hn : xs.length ≤ 1000) : Good Try.prog TT true 10 [.tape, ints xs] (IntR (· ∈ xs)) := by
  have L : (xs.map encI).length = xs.length := List.length_map ..
  refine good_of mixed tabOk Try.func10 rfl rfl Try.ntmps10 Try.results10 rfl rfl ?_
  (conv => whnf); (repeat (first | (refine arith_i ⟨by omega, by omega⟩ ?_; conv => whnf) | (refine need_i (by first | omega | (simp only [List.length_append, List.length_cons, List.length_nil]; omega)) ?_; conv => whnf) | ((with_reducible first | refine branch_tt ?_ | refine branch_ff ?_); conv => whnf) | (with_reducible refine branch_not ?_) | ((with_reducible first | refine slc_e ?_ | refine callS_a ?_ | refine bld_a ?_ | refine own_e ?_ | refine mkmap_b ?_ | refine lnk_a ?_); conv => whnf)))
  refine call_i (next_ok _ (by omega)) fun r hr => ?_
  obtain ⟨x, rfl, -, h2⟩ := hr
  replace h2 := h2 (by omega)
  (conv => whnf); (repeat (first | (refine arith_i ⟨by omega, by omega⟩ ?_; conv => whnf) | (refine need_i (by first | omega | (simp only [List.length_append, List.length_cons, List.length_nil]; omega)) ?_; conv => whnf) | ((with_reducible first | refine branch_tt ?_ | refine branch_ff ?_); conv => whnf) | (with_reducible refine branch_not ?_) | ((with_reducible first | refine slc_e ?_ | refine callS_a ?_ | refine bld_a ?_ | refine own_e ?_ | refine mkmap_b ?_ | refine lnk_a ?_); conv => whnf)))
  refine idx_m (by omega) (by omega) fun y hy => ?_
  (conv => whnf); (repeat (first | (refine arith_i ⟨by omega, by omega⟩ ?_; conv => whnf) | (refine need_i (by first | omega | (simp only [List.length_append, List.length_cons, List.length_nil]; omega)) ?_; conv => whnf) | ((with_reducible first | refine branch_tt ?_ | refine branch_ff ?_); conv => whnf) | (with_reducible refine branch_not ?_) | ((with_reducible first | refine slc_e ?_ | refine callS_a ?_ | refine bld_a ?_ | refine own_e ?_ | refine mkmap_b ?_ | refine lnk_a ?_); conv => whnf)))
  exact ret_p rfl ⟨_, rfl, List.mem_of_getElem? hy⟩
theorem dbool_ok (n : Int) (hn : 1 ≤ n ∧ n ≤ 1000) : Good Try.prog TT true 8 [.tape, .int .i64 n] BoolR := by
  refine good_of mixed tabOk Try.func8 rfl rfl Try.ntmps8 Try.results8 rfl rfl ?_
  (conv => whnf); (repeat (first | (refine arith_i ⟨by omega, by omega⟩ ?_; conv => whnf) | (refine need_i (by first | omega | (simp only [List.length_append, List.length_cons, List.length_nil]; omega)) ?_; conv => whnf) | ((with_reducible first | refine branch_tt ?_ | refine branch_ff ?_); conv => whnf) | (with_reducible refine branch_not ?_) | ((with_reducible first | refine slc_e ?_ | refine callS_a ?_ | refine bld_a ?_ | refine own_e ?_ | refine mkmap_b ?_ | refine lnk_a ?_); conv => whnf)))
  refine call_i (next_ok n (by omega)) fun r hr => ?_
  obtain ⟨x, rfl, -⟩ := hr
  (conv => whnf); (repeat (first | (refine arith_i ⟨by omega, by omega⟩ ?_; conv => whnf) | (refine need_i (by first | omega | (simp only [List.length_append, List.length_cons, List.length_nil]; omega)) ?_; conv => whnf) | ((with_reducible first | refine branch_tt ?_ | refine branch_ff ?_); conv => whnf) | (with_reducible refine branch_not ?_) | ((with_reducible first | refine slc_e ?_ | refine callS_a ?_ | refine bld_a ?_ | refine own_e ?_ | refine mkmap_b ?_ | refine lnk_a ?_); conv => whnf)))
  exact ret_p rfl ⟨_, rfl⟩
def encL (l : List Int) : List AV := [ints l]
structure FineM (l : List Mrk) (v : Int) : Prop where
  all : ∀ (k : Nat) (m : Mrk), l[k]? = some m → GoodMk m ∧ m.id ≤ v ∧ m.cap ≤ 6 ∧ ∀ x ∈ m.papers, x = 0 ∨ x = 1
  asc : AscM l
  low : 0 ≤ v
  up : v ≤ 3 * l.length
theorem snoc_at {α : Type} {l : List α} {x y : α} {k : Nat} (h : (l ++ [x])[k]? = some y) : (k < l.length ∧ l[k]? = some y) ∨ (k = l.length ∧ y = x) := by
  rcases Nat.lt_or_ge k l.length with hk | hk
  · rw [List.getElem?_append_left hk] at h; exact .inl ⟨hk, h⟩
  · rw [List.getElem?_append_right hk] at h
    have : k - l.length = 0 := by
      have := (List.getElem?_eq_some_iff.1 h).1
      simpa using this
    rw [this] at h
    simp at h
    exact .inr ⟨by omega, h.symm⟩
theorem fine_snoc {l : List Mrk} {v : Int} (h : FineM l v) {m : Mrk} (h1 : v + 1 ≤ m.id) (h2 : m.id ≤ v + 3) (h3 : GoodMk m) (h4 : m.cap ≤ 6 ∧ ∀ x ∈ m.papers, x = 0 ∨ x = 1) : FineM (l ++ [m]) m.id := by
  obtain ⟨a, b, c, d⟩ := h
  refine ⟨fun k x hx => ?_, fun i j x y hij hx hy => ?_, by omega, by simp; omega⟩
  · rcases snoc_at hx with ⟨_, h'⟩ | ⟨_, rfl⟩
    · have := a k x h'; exact ⟨this.1, by omega, this.2.2⟩
    · exact ⟨h3, Int.le_refl _, h4⟩
  · rcases snoc_at hx with ⟨hi, h'⟩ | ⟨hi, rfl⟩
    · rcases snoc_at hy with ⟨hj, h''⟩ | ⟨hj, rfl⟩
      · exact b i j x y hij h' h''
      · have := (a i x h').2.1; omega
    · rcases snoc_at hy with ⟨hj, h''⟩ | ⟨hj, rfl⟩
      · omega
      · omega
theorem good_mk {v c lv cp y : Int} {q : List Int} (h1 : 1 ≤ v ∧ v ≤ 15) (hc : c ∈ [-1, -1, 1, 2, 3]) (hl : lv ∈ [1, 1, 1, 2, 3]) (hp : cp ∈ [3, 2, 6, 0, 1]) (hq : q ∈ [[0, 1], [0], [1], [0, 1]]) : GoodMk ⟨v, c, lv, cp, q⟩ := by
  simp only [List.mem_cons, List.not_mem_nil, or_false] at hc hl hp hq
  refine ⟨by simp only; omega, by simp only; omega, by simp only; omega, by simp only; omega, fun k x hx => ?_, fun i h0 hi => ?_, ?_⟩
  · have hm := List.mem_of_getElem? hx
    simp only at hm
    rcases hq with rfl | rfl | rfl | rfl <;> simp only [List.mem_cons, List.not_mem_nil, or_false] at hm
    · rcases hm with rfl | rfl <;> decide
    · subst hm; decide
    · subst hm; decide
    · rcases hm with rfl | rfl <;> decide
  · simp only at hi ⊢
    rcases hq with rfl | rfl | rfl | rfl <;> simp only [List.length_cons, List.length_nil] at hi
    · obtain rfl : i = 1 := by omega
      decide
    · omega
    · omega
    · obtain rfl : i = 1 := by omega
      decide
  · simp only
    rcases hq with rfl | rfl | rfl | rfl <;> simp
def MarkR (r : AV) : Prop := ∃ l, r = .own 0 67 5 (l.map encM) ∧ MksOk l ∧ 2 ≤ l.length ∧ l.length ≤ 5 ∧ ∀ (k : Nat) (m : Mrk), l[k]? = some m → m.id ≤ 15 ∧ m.cap ≤ 6 ∧ ∀ x ∈ m.papers, x = 0 ∨ x = 1
theorem markers_ok : Good Try.prog TT true 27 [.tape] MarkR := by
  refine good_of mixed tabOk Try.func27 rfl rfl Try.ntmps27 Try.results27 rfl rfl ?_
  (conv => whnf); (repeat (first | (refine arith_i ⟨by omega, by omega⟩ ?_; conv => whnf) | (refine need_i (by first | omega | (simp only [List.length_append, List.length_cons, List.length_nil]; omega)) ?_; conv => whnf) | ((with_reducible first | refine branch_tt ?_ | refine branch_ff ?_); conv => whnf) | (with_reducible refine branch_not ?_) | ((with_reducible first | refine slc_e ?_ | refine callS_a ?_ | refine bld_a ?_ | refine own_e ?_ | refine mkmap_b ?_ | refine lnk_a ?_); conv => whnf)))
  refine call_i (next_ok 4 (by omega)) fun r hr => ?_
  obtain ⟨n, rfl, -, hn⟩ := hr
  replace hn := hn (by omega)
  (conv => whnf); (repeat (first | (refine arith_i ⟨by omega, by omega⟩ ?_; conv => whnf) | (refine need_i (by first | omega | (simp only [List.length_append, List.length_cons, List.length_nil]; omega)) ?_; conv => whnf) | ((with_reducible first | refine branch_tt ?_ | refine branch_ff ?_); conv => whnf) | (with_reducible refine branch_not ?_) | ((with_reducible first | refine slc_e ?_ | refine callS_a ?_ | refine bld_a ?_ | refine own_e ?_ | refine mkmap_b ?_ | refine lnk_a ?_); conv => whnf)))
  refine loop_i (fun p : List Mrk × Int => FineM p.1 p.2 ∧ (p.1.length : Int) ≤ 2 + n) (fun p => mkSt [(0, .tape), (3, .own 200 67 5 (p.1.map encM)), (4, .int .i64 p.2), (5, .int .i64 (2 + n - p.1.length))] [] true) (fun p => (2 + n).toNat - p.1.length) ([], 0) ⟨⟨nofun, nofun, by omega, by simp⟩, by simp; omega⟩ (Le.trans (le_adopt 3 200 67 5 rfl) (le_mk ⟨rfl, rfl, rfl, int_eq (by simp), trivial⟩ trivial rfl)) ?_
  rintro ⟨l, v⟩ ⟨hF, hl⟩
  replace hF : FineM l v := hF
  replace hl : (l.length : Int) ≤ 2 + n := hl
  have L : (l.map encM).length = l.length := List.length_map ..
  have hv1 := hF.low
  have hv2 := hF.up
  have hp1 : (l, v).1.length = l.length := rfl
  have hp2 : (l, v).2 = v := rfl
  (conv => whnf); (repeat (first | (refine arith_i ⟨by omega, by omega⟩ ?_; conv => whnf) | (refine need_i (by first | omega | (simp only [List.length_append, List.length_cons, List.length_nil]; omega)) ?_; conv => whnf) | ((with_reducible first | refine branch_tt ?_ | refine branch_ff ?_); conv => whnf) | (with_reducible refine branch_not ?_) | ((with_reducible first | refine slc_e ?_ | refine callS_a ?_ | refine bld_a ?_ | refine own_e ?_ | refine mkmap_b ?_ | refine lnk_a ?_); conv => whnf)))
  refine branch_d (fun h => ?_) (fun h => ?_)
  · replace h : 0 < 2 + n - (l.length : Int) := h
    (conv => whnf); (repeat (first | (refine arith_i ⟨by omega, by omega⟩ ?_; conv => whnf) | (refine need_i (by first | omega | (simp only [List.length_append, List.length_cons, List.length_nil]; omega)) ?_; conv => whnf) | ((with_reducible first | refine branch_tt ?_ | refine branch_ff ?_); conv => whnf) | (with_reducible refine branch_not ?_) | ((with_reducible first | refine slc_e ?_ | refine callS_a ?_ | refine bld_a ?_ | refine own_e ?_ | refine mkmap_b ?_ | refine lnk_a ?_); conv => whnf)))
    refine call_i (next_ok 3 (by omega)) fun r hr => ?_
    obtain ⟨x, rfl, -, hx⟩ := hr
    replace hx := hx (by omega)
    (conv => whnf); (repeat (first | (refine arith_i ⟨by omega, by omega⟩ ?_; conv => whnf) | (refine need_i (by first | omega | (simp only [List.length_append, List.length_cons, List.length_nil]; omega)) ?_; conv => whnf) | ((with_reducible first | refine branch_tt ?_ | refine branch_ff ?_); conv => whnf) | (with_reducible refine branch_not ?_) | ((with_reducible first | refine slc_e ?_ | refine callS_a ?_ | refine bld_a ?_ | refine own_e ?_ | refine mkmap_b ?_ | refine lnk_a ?_); conv => whnf)))
    refine call_i (pick_ok [-1, -1, 1, 2, 3] (by decide) (by decide)) fun r hr => ?_
    obtain ⟨c, rfl, hc⟩ := hr
    (conv => whnf); (repeat (first | (refine arith_i ⟨by omega, by omega⟩ ?_; conv => whnf) | (refine need_i (by first | omega | (simp only [List.length_append, List.length_cons, List.length_nil]; omega)) ?_; conv => whnf) | ((with_reducible first | refine branch_tt ?_ | refine branch_ff ?_); conv => whnf) | (with_reducible refine branch_not ?_) | ((with_reducible first | refine slc_e ?_ | refine callS_a ?_ | refine bld_a ?_ | refine own_e ?_ | refine mkmap_b ?_ | refine lnk_a ?_); conv => whnf)))
    refine call_i (pick_ok [1, 1, 1, 2, 3] (by decide) (by decide)) fun r hr => ?_
    obtain ⟨lv, rfl, hlv⟩ := hr
    (conv => whnf); (repeat (first | (refine arith_i ⟨by omega, by omega⟩ ?_; conv => whnf) | (refine need_i (by first | omega | (simp only [List.length_append, List.length_cons, List.length_nil]; omega)) ?_; conv => whnf) | ((with_reducible first | refine branch_tt ?_ | refine branch_ff ?_); conv => whnf) | (with_reducible refine branch_not ?_) | ((with_reducible first | refine slc_e ?_ | refine callS_a ?_ | refine bld_a ?_ | refine own_e ?_ | refine mkmap_b ?_ | refine lnk_a ?_); conv => whnf)))
    refine call_i (pick_ok [3, 2, 6, 0, 1] (by decide) (by decide)) fun r hr => ?_
    obtain ⟨cp, rfl, hcp⟩ := hr
    (conv => whnf); (repeat (first | (refine arith_i ⟨by omega, by omega⟩ ?_; conv => whnf) | (refine need_i (by first | omega | (simp only [List.length_append, List.length_cons, List.length_nil]; omega)) ?_; conv => whnf) | ((with_reducible first | refine branch_tt ?_ | refine branch_ff ?_); conv => whnf) | (with_reducible refine branch_not ?_) | ((with_reducible first | refine slc_e ?_ | refine callS_a ?_ | refine bld_a ?_ | refine own_e ?_ | refine mkmap_b ?_ | refine lnk_a ?_); conv => whnf)))
    refine call_i (next_ok 4 (by omega)) fun r hr => ?_
    obtain ⟨y, rfl, -, hy⟩ := hr
    replace hy := hy (by omega)
    (conv => whnf); (repeat (first | (refine arith_i ⟨by omega, by omega⟩ ?_; conv => whnf) | (refine need_i (by first | omega | (simp only [List.length_append, List.length_cons, List.length_nil]; omega)) ?_; conv => whnf) | ((with_reducible first | refine branch_tt ?_ | refine branch_ff ?_); conv => whnf) | (with_reducible refine branch_not ?_) | ((with_reducible first | refine slc_e ?_ | refine callS_a ?_ | refine bld_a ?_ | refine own_e ?_ | refine mkmap_b ?_ | refine lnk_a ?_); conv => whnf)))
    refine idx_m (enc := encL) (xs := [[0, 1], [0], [1], [0, 1]]) (by omega) (by show y < 4; omega) fun q hq => ?_
    have hq2 := List.mem_of_getElem? hq
    (conv => whnf); (repeat (first | (refine arith_i ⟨by omega, by omega⟩ ?_; conv => whnf) | (refine need_i (by first | omega | (simp only [List.length_append, List.length_cons, List.length_nil]; omega)) ?_; conv => whnf) | ((with_reducible first | refine branch_tt ?_ | refine branch_ff ?_); conv => whnf) | (with_reducible refine branch_not ?_) | ((with_reducible first | refine slc_e ?_ | refine callS_a ?_ | refine bld_a ?_ | refine own_e ?_ | refine mkmap_b ?_ | refine lnk_a ?_); conv => whnf)))
    refine ⟨(l ++ [⟨v + (1 + x), c, lv, cp, q⟩], v + (1 + x)), ⟨fine_snoc hF (by show v + 1 ≤ v + (1 + x); omega) (by show v + (1 + x) ≤ v + 3; omega) (good_mk (y := 0) (by omega) hc hlv hcp hq2) ⟨by simp only [List.mem_cons, List.not_mem_nil, or_false] at hcp; show cp ≤ 6; omega, by simp only [List.mem_cons, List.not_mem_nil, or_false] at hq2; show ∀ x ∈ q, _; rcases hq2 with rfl | rfl | rfl | rfl <;> simp⟩, by show ((l ++ [_]).length : Int) ≤ _; simp; omega⟩, le_mk ⟨rfl, ?_, rfl, int_eq (by simp; omega), trivial⟩ trivial rfl, by show (2 + n).toNat - (l ++ [_]).length < (2 + n).toNat - l.length; simp; omega⟩
    simp only [List.map_append, List.map_cons, List.map_nil]
    rfl
  · replace h : ¬ 0 < 2 + n - (l.length : Int) := h
    (conv => whnf); (repeat (first | (refine arith_i ⟨by omega, by omega⟩ ?_; conv => whnf) | (refine need_i (by first | omega | (simp only [List.length_append, List.length_cons, List.length_nil]; omega)) ?_; conv => whnf) | ((with_reducible first | refine branch_tt ?_ | refine branch_ff ?_); conv => whnf) | (with_reducible refine branch_not ?_) | ((with_reducible first | refine slc_e ?_ | refine callS_a ?_ | refine bld_a ?_ | refine own_e ?_ | refine mkmap_b ?_ | refine lnk_a ?_); conv => whnf)))
    exact ret_o ⟨l, rfl, ⟨by omega, fun k m hm => (hF.all k m hm).1, hF.asc⟩, by omega, by omega, fun k m hm => by have := (hF.all k m hm).2; exact ⟨by omega, this.2⟩⟩
end Go.Proofs.Ythgnomniboindaa
end
