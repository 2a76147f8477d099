/- Lists that a tape makes: State, Sorted. -/
import Derived.Test.YtipelkbdonfkoaaTape
namespace Go.Proofs.Ytipelkbdonfkoaa
set_option linter.unusedVariables false
open Go.RowKit

def OwnInts (B : Nat) (P : List Int → Prop) : World → Value → Prop := fun w v => ∃ xs, Own Rep.int w No B 3 v xs ∧ P xs
structure ListRel (p : Nat) (w : World) (n : Nat) (P : Nat → List Int → Prop) (k : Nat) (v : Value) (wr : World) : Prop where
  le : k ≤ n
  own : ∃ xs, Own Rep.int wr No w.heap.size 3 v xs ∧ P k xs ∧ xs.length ≤ k
  tape : TapeOk wr p
  chg : Chg (Is p) w wr

theorem own_apart {α : Type} {r : Rep α} {w : World} {X : Nat → Prop} {B p : Nat} {e : TypeId} {v : Value} {xs : List α} (h : Own r w X B e v xs) (hp : p < B) : ∀ k, v.ownBlock = some k → ¬ Is p k := fun k hk he => by
  have := (h.blk k hk).1
  have : k = p := he
  omega
/-- The tape, and the frame, behind a change of a row of the call's own. -/
theorem tape_own {α : Type} {r : Rep α} {w w1 w2 : World} {X : Nat → Prop} {B p : Nat} {e : TypeId} {v : Value} {xs : List α} (h : Own r w1 X B e v xs) (hp : p < B) (ht : TapeOk w1 p) (hc : Chg (fun b => v.ownBlock = some b) w1 w2) : TapeOk w2 p :=
  ht.chg hc fun b _ hb => by have := (h.blk b hb).1; omega
theorem chg_own {α : Type} {r : Rep α} {w w1 w2 : World} {X Y : Nat → Prop} {e : TypeId} {v : Value} {xs : List α} (h : Own r w1 X w.heap.size e v xs) (h1 : Chg Y w w1) (hc : Chg (fun b => v.ownBlock = some b) w1 w2) : Chg Y w w2 :=
  h1.andThen hc fun b hlt hb => by have := (h.blk b hb).1; omega

set_option maxRecDepth 100000 in
set_option maxHeartbeats 1000000 in
theorem state_any (p : Nat) (n : Nat) (w : World) (h : TapeOk w p) (hn : n ≤ 1000) :
    Calls Try.prog 14 #[.pointer (some ⟨p, 0, none⟩), .int .i64 n] w (Ret (OwnInts w.heap.size fun xs => xs.length = n ∧ ∀ x ∈ xs, -1 ≤ x ∧ x ≤ 1) p w) := by
  have HH := Lib.hid h; clear h
  go_enter Try.func14, Try.ntmps14
  go_wp2_with fail
  go_loopw [5, 6] (fun v i wr => ∃ k : Nat, i = .int .i64 k ∧ ListRel p w n (fun k xs => xs.length = k ∧ ∀ x ∈ xs, -1 ≤ x ∧ x ≤ 1) k v wr) (fun _ i _ => n - (intOf i).toNat)
  case atStart => exact ⟨0, rfl, Nat.zero_le _, ⟨[], Own.nil, ⟨rfl, by simp⟩, Nat.le_refl _⟩, HH.out, Chg.refl _ _⟩
  case round =>
    obtain ⟨k, rfl, R⟩ := hrel
    have hk := R.le
    obtain ⟨xs, ho, ⟨hl, hx⟩, -⟩ := R.own
    have hlt := HH.out.lt
    by_cases hkn : k < n
    · have HO := Lib.hid ho; clear ho
      have HX := Lib.hid hx; clear hx
      have HL := Lib.hid hl; clear hl
      go_wp2_with fail
      refine (range_any p _ _ _ R.tape (by omega) (by omega) (by omega) (by omega)).mono ?_
      rintro e w1 ⟨v1, rfl, ⟨x, rfl, hx1, hx2⟩, ht, hc⟩
      have hxx := hx2 (by omega)
      have HO1 := Lib.hid (fun o => HO.out.int_chg (hc.alloc o) (own_apart HO.out (p := p) hlt))
      clear hx1 hx2
      have HT := Lib.hid ht; clear ht
      have HC := Lib.hid hc; clear hc
      have hl3 : xs.length ≤ 1000000 := by have := HL.out; omega
      have hb3 : ∀ o, w.heap.size ≤ (w1.alloc o).heap.size := fun o => by have := HC.out.size; have := R.chg.size; simp; omega
      go_wp2_with (at_builtin; refine wpList_append_rep (r := Rep.int) (v := u5) (xs := xs) (base := w.heap.size) (X := No) rfl 22 3 elemInt (.tmp 12) (.tmp 15) rfl rfl (HO1.out _) ⟨w1.heap.size, 0, none⟩ 1 [.int .i64 x] x rfl (cell_one_new _ _ _) rfl hl3 (hb3 _) ?_; intro A' c' w2 ho2 hc2 hb2; have HO2 := Lib.hid ho2; clear ho2; have HC2 := Lib.hid hc2; clear hc2; have HB2 := Lib.hid hb2; clear hb2)
      go_roundw
      case rel =>
        refine ⟨k + 1, by go_num, by omega, ⟨xs ++ [x], HO2.out, ⟨by simp [HL.out], ?_⟩, by simp [HL.out]⟩, tape_own (w := w) (HO1.out _) hlt (HT.out.keep ((Chg.refl _ _).alloc _)) HC2.out, chg_own (HO1.out _) ((R.chg.trans HC.out).alloc _) HC2.out⟩
        intro y hy
        rcases List.mem_append.1 hy with hy | hy
        · exact HX.out y hy
        · rw [List.mem_singleton.1 hy]; exact hxx
      case measure => simp [intOf]; omega
    · have HO := Lib.hid ho; clear ho
      have HX := Lib.hid hx; clear hx
      have HL := Lib.hid hl; clear hl
      go_wp2_with fail
      go_ret
      exact ⟨_, rfl, ⟨xs, HO.out, by rw [HL.out]; omega, HX.out⟩, R.tape, R.chg⟩

def ascIn (n : Nat) (xs : List Int) : Prop := xs.Pairwise (· < ·) ∧ ∀ x ∈ xs, 0 ≤ x ∧ x < n
theorem ascIn_snoc {k : Nat} {xs : List Int} (h : ascIn k xs) : ascIn (k + 1) (xs ++ [(k : Int)]) := by
  refine ⟨List.pairwise_append.2 ⟨h.1, by simp, fun a ha b hb => ?_⟩, fun x hx => ?_⟩
  · rw [List.mem_singleton.1 hb]; exact (h.2 a ha).2
  · rcases List.mem_append.1 hx with hx | hx
    · have := h.2 x hx; omega
    · rw [List.mem_singleton.1 hx]; omega
theorem ascIn_more {k : Nat} {xs : List Int} (h : ascIn k xs) : ascIn (k + 1) xs := ⟨h.1, fun x hx => by have := h.2 x hx; omega⟩
set_option maxRecDepth 100000 in
set_option maxHeartbeats 1000000 in
theorem sorted_any (p : Nat) (n : Nat) (w : World) (h : TapeOk w p) (hn : n ≤ 1000) :
    Calls Try.prog 28 #[.pointer (some ⟨p, 0, none⟩), .int .i64 n] w (Ret (OwnInts w.heap.size fun xs => ascIn n xs ∧ xs.length ≤ n) p w) := by
  have HH := Lib.hid h; clear h
  go_enter Try.func28, Try.ntmps28
  go_wp2_with fail
  go_loopw [5, 6] (fun v i wr => ∃ k : Nat, i = .int .i64 k ∧ ListRel p w n ascIn k v wr) (fun _ i _ => n - (intOf i).toNat)
  case atStart => exact ⟨0, rfl, Nat.zero_le _, ⟨[], Own.nil, ⟨by simp, by simp⟩, Nat.le_refl _⟩, HH.out, Chg.refl _ _⟩
  case round =>
    obtain ⟨k, rfl, R⟩ := hrel
    have hk := R.le
    obtain ⟨xs, ho, hx, hl⟩ := R.own
    have hlt := HH.out.lt
    have HO := Lib.hid ho; clear ho
    have HX := Lib.hid hx; clear hx
    by_cases hkn : k < n
    · go_wp2_with fail
      refine (next_any p _ _ R.tape (by omega)).mono ?_
      rintro e w1 ⟨v1, rfl, ⟨x, rfl, hx1, hx2⟩, ht, hc⟩
      clear hx1 hx2
      have HO0 := Lib.hid (HO.out.int_chg hc (own_apart HO.out (p := p) hlt))
      have HO1 := Lib.hid (fun o => HO.out.int_chg (hc.alloc o) (own_apart HO.out (p := p) hlt))
      have HT := Lib.hid ht; clear ht
      have HC := Lib.hid hc; clear hc
      have hl3 : xs.length ≤ 1000000 := by omega
      have hb3 : ∀ o, w.heap.size ≤ (w1.alloc o).heap.size := fun o => by have := HC.out.size; have := R.chg.size; simp; omega
      by_cases hx1 : x = 1
      · have hx1' : (x == 1) = true := by simp [hx1]
        clear hx1
        go_wp2_with (at_builtin; refine wpList_append_rep (r := Rep.int) (v := u5) (xs := xs) (base := w.heap.size) (X := No) rfl 22 3 elemInt (.tmp 15) (.tmp 17) rfl rfl (HO1.out _) ⟨w1.heap.size, 0, none⟩ 1 [.int .i64 k] k rfl (cell_one_new _ _ _) rfl hl3 (hb3 _) ?_; intro A' c' w2 ho2 hc2 hb2; have HO2 := Lib.hid ho2; clear ho2; have HC2 := Lib.hid hc2; clear hc2; have HB2 := Lib.hid hb2; clear hb2)
        go_roundw
        case rel => exact ⟨k + 1, by go_num, by omega, ⟨xs ++ [(k : Int)], HO2.out, ascIn_snoc HX.out, by simp; omega⟩, tape_own (w := w) (HO1.out _) hlt (HT.out.keep ((Chg.refl _ _).alloc _)) HC2.out, chg_own (HO1.out _) ((R.chg.trans HC.out).alloc _) HC2.out⟩
        case measure => simp [intOf]; omega
      · have hx1' : (x == 1) = false := by simp [hx1]
        clear hx1
        go_wp2_with fail
        go_roundw
        case rel => exact ⟨k + 1, by go_num, by omega, ⟨xs, HO0.out, ascIn_more HX.out, by omega⟩, HT.out, R.chg.trans HC.out⟩
        case measure => simp [intOf]; omega
    · go_wp2_with fail
      go_ret
      have : k = n := by omega
      subst this
      exact ⟨_, rfl, ⟨xs, HO.out, HX.out, hl⟩, R.tape, R.chg⟩
end Go.Proofs.Ytipelkbdonfkoaa
