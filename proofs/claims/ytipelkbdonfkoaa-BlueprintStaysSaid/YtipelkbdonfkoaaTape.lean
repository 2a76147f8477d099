/- The tape of numbers: contracts of New, Raw, Cut, Next, Range, One, Pick, Wild, Spoil. -/
import Derived.Test.YtipelkbdonfkoaaBase
import Derived.Test.YtipelkbdonfkoaaProg
import Derived.KernelRfl
namespace Go.Proofs.Ytipelkbdonfkoaa
set_option linter.unusedVariables false
open Go.RowKit

theorem elemInt : Elem Try.prog 22 3 1 := elem_of (z := .int .i64 0) (bytes := 8) Try.underlying22 (by kernel_rfl) rfl (by omega) (by omega)

/-- Block p is a tape. -/
def TapeOk (w : World) (p : Nat) : Prop := ∃ A n c xs k, Blk w p 72 #[.slice A n c, .int .i64 (k : Nat)] ∧ Ints w (From p) A n c xs ∧ k ≤ n ∧ n ≤ 600
theorem TapeOk.lt {w : World} {p : Nat} (h : TapeOk w p) : p < w.heap.size := by
  obtain ⟨A, n, c, xs, k, hb, _⟩ := h
  exact hb.lt
theorem TapeOk.chg {w w' : World} {p : Nat} {X : Nat → Prop} (h : TapeOk w p) (hc : Chg X w w') (hX : ∀ b, b < w.heap.size → X b → p < b) : TapeOk w' p := by
  obtain ⟨A, n, c, xs, k, hb, hi, h1, h2⟩ := h
  exact ⟨A, n, c, xs, k, hb.chg hc (fun h => absurd (hX p hb.lt h) (by omega)), hi.chg _ hc (fun b hlt h => Nat.le_of_lt (hX b hlt h)), h1, h2⟩
theorem TapeOk.keep {w w' : World} {p : Nat} (h : TapeOk w p) (hc : Chg No w w') : TapeOk w' p := h.chg hc fun _ _ h => h.elim

/-- What a call on a tape leaves: a value of which V holds, the tape, and nothing else turned. -/
def Ret (V : World → Value → Prop) (p : Nat) (w : World) (e : Ending) (w' : World) : Prop := ∃ v, e = .returned v ∧ V w' v ∧ TapeOk w' p ∧ Chg (Is p) w w'
def IntIn (P : Int → Prop) : World → Value → Prop := fun _ v => ∃ x, v = .int .i64 x ∧ P x

set_option maxHeartbeats 400000 in
theorem raw_any (p : Nat) (w : World) (h : TapeOk w p) :
    Calls Try.prog 53 #[.pointer (some ⟨p, 0, none⟩)] w (Ret (IntIn fun _ => True) p w) := by
  obtain ⟨A, n, c, xs, k, hb, hi, hk, hn⟩ := id h
  have h0 : w.cell? ⟨p, 0, none⟩ = some (.slice A n c) := by rw [hb.cell]; rfl
  have h1 : w.cell? ⟨p, 1, none⟩ = some (.int .i64 k) := by rw [hb.cell]; rfl
  have f1 : w.frozen? ⟨p, 1, none⟩ = false := hb.frozen 1
  have HH := Lib.hid h; clear h
  rcases Nat.lt_or_ge k n with hlt | hge
  · obtain ⟨b, off, rfl, hbl, hbp, hc⟩ := hi.int_at (by omega)
    have hbp' : ¬ b = p := fun e => hbp (by show p ≤ b; omega)
    have hck := hc k hlt
    have HB := Lib.hid hb; clear hb
    have HC := Lib.hid hc; clear hc
    go_enter Try.func53, Try.ntmps53
    go_wp2
    go_quiet (fail)
    go_wp2
    go_quiet (fail)
    go_wp2
    go_ret
    have ch : ∀ i j, Chg (Is p) w (((w.drewN i).setCell ⟨p, 1, none⟩ (.int .i64 (↑k + 1))).drewN j) := fun i j => (((Chg.refl (Is p) w).drewN i).setCell (.inl is_) _).drewN j
    refine ⟨.int .i64 (nth xs k), rfl, ⟨_, rfl, trivial⟩, ⟨_, n, c, xs, k + 1, ?_, hi.chg _ (ch _ _) (fun b _ h => by have : b = p := h; show p ≤ b; omega), hlt, hn⟩, ch _ _⟩
    have := HB.out.stored 1 (.int .i64 ((k + 1 : Nat) : Int))
    simp at this
    exact this
  · have HB := Lib.hid hb; clear hb
    go_enter Try.func53, Try.ntmps53
    go_wp2
    go_quiet (fail)
    go_wp2
    go_ret
    exact ⟨.int .i64 0, rfl, ⟨_, rfl, trivial⟩, HH.out.keep ((Chg.refl _ w).drewN _), (Chg.refl _ w).drewN _⟩

def cutF (x n : Int) : Int := if n < 1 then 0 else if x.tmod n < 0 then x.tmod n + n else x.tmod n
theorem cutF_in (x n : Int) (h : 1 ≤ n) : 0 ≤ cutF x n ∧ cutF x n < n := by
  have b1 := Int.tmod_lt_of_pos x (show 0 < n by omega)
  have b2 := Int.lt_tmod_of_pos x (show 0 < n by omega)
  unfold cutF
  rw [if_neg (by omega)]
  split <;> omega
theorem cutF_low (x n : Int) (h : n < 1) : cutF x n = 0 := by simp [cutF, h]

set_option maxHeartbeats 400000 in
theorem cut_any (x n : Int) (w : World) (hn : n ≤ 1000000000) :
    Calls Try.prog 27 #[.int .i64 x, .int .i64 n] w fun e w' => e = .returned (.int .i64 (cutF x n)) ∧ w = w' := by
  unfold cutF
  by_cases h1 : n < 1
  · go_enter Try.func27, Try.ntmps27
    go_wp2
    go_ret
    exact ⟨by simp, rfl⟩
  · have hn0 : (n == 0) = false := by simp; omega
    have b1 := Int.tmod_lt_of_pos x (show 0 < n by omega)
    have b2 := Int.lt_tmod_of_pos x (show 0 < n by omega)
    rw [if_neg h1]
    by_cases h2 : x.tmod n < 0
    · rw [if_pos h2]
      go_enter Try.func27, Try.ntmps27
      go_wp2
      go_ret
      exact ⟨rfl, rfl⟩
    · rw [if_neg h2]
      go_enter Try.func27, Try.ntmps27
      go_wp2
      go_ret
      exact ⟨rfl, rfl⟩

def Upto (n : Int) : Int → Prop := fun x => (n < 1 → x = 0) ∧ (1 ≤ n → 0 ≤ x ∧ x < n)
set_option maxHeartbeats 400000 in
theorem next_any (p : Nat) (n : Int) (w : World) (h : TapeOk w p) (hn : n ≤ 1000000000) :
    Calls Try.prog 29 #[.pointer (some ⟨p, 0, none⟩), .int .i64 n] w (Ret (IntIn (Upto n)) p w) := by
  have HH := Lib.hid h; clear h
  go_enter Try.func29, Try.ntmps29
  go_wp2_with fail
  refine (raw_any p _ HH.out).mono ?_
  rintro e w1 ⟨v, rfl, ⟨x, rfl, -⟩, ht, hc⟩
  have HT := Lib.hid ht; clear ht
  have HC := Lib.hid hc; clear hc
  go_wp2_with fail
  refine (cut_any x n _ hn).mono ?_
  rintro e w2 ⟨rfl, rfl⟩
  go_wp2_with fail
  go_ret
  exact ⟨_, rfl, ⟨_, rfl, cutF_low x n, cutF_in x n⟩, HT.out, HC.out⟩

/-- What a call leaves that makes a tape. -/
def RetTape (w : World) (e : Ending) (w' : World) : Prop := ∃ p, e = .returned (.pointer (some ⟨p, 0, none⟩)) ∧ w.heap.size ≤ p ∧ TapeOk w' p ∧ Chg No w w'
theorem Slc.pre {α : Type} {r : Rep α} {w : World} {X : Nat → Prop} {A : Option Addr} {n c : Nat} {xs : List α} (h : Slc r w X A n c xs) {k : Nat} (hk : k ≤ n) : Slc r w X A k c (xs.take k) :=
  ⟨by rw [List.length_take, h.len]; omega, by have := h.cap; omega, fun hk' => by
    obtain ⟨b, off, h1, h2, h3, h4⟩ := h.at_ (by omega)
    exact ⟨b, off, h1, h2, h3, fun i x hx => h4 i x (by rw [List.getElem?_take] at hx; split at hx <;> first | exact hx | cases hx)⟩⟩
set_option maxHeartbeats 400000 in
theorem new_any (A : Option Addr) (n c : Nat) (xs : List Int) (w : World) (h : Ints w No A n c xs) (hm : c ≤ maxLen) :
    Calls Try.prog 12 #[.slice A n c] w (RetTape w) := by
  unfold maxLen at hm
  have hcap := h.cap
  have fin : ∀ k xs', k ≤ 600 → Ints w No A k c xs' → Chg No w (w.alloc (.cells #[.slice A k c, .int .i64 0] 72)) ∧ TapeOk (w.alloc (.cells #[.slice A k c, .int .i64 0] 72)) w.heap.size := fun k xs' hk hI =>
    ⟨(Chg.refl _ w).alloc _, A, k, c, xs', 0, Blk.made w _ _, hI.move _ (fun b hb _ => ((Chg.refl No w).alloc _).block b hb no_) (fun b hb he => by have : w.heap.size ≤ b := he; omega), Nat.zero_le _, hk⟩
  by_cases h6 : 600 < n
  · obtain ⟨b, off, rfl, hbl, -, -⟩ := h.int_at (by omega)
    have F := Lib.hid (fin 600 _ (Nat.le_refl _) (h.pre (by omega))); clear fin
    have H := Lib.hid h; clear h
    go_enter Try.func12, Try.ntmps12
    go_wp2
    go_ret
    exact ⟨_, rfl, Nat.le_refl _, F.out.2, F.out.1⟩
  · have F := Lib.hid (fin n _ (by omega) h); clear fin
    have H := Lib.hid h; clear h
    go_enter Try.func12, Try.ntmps12
    go_wp2
    go_ret
    exact ⟨_, rfl, Nat.le_refl _, F.out.2, F.out.1⟩

def Between (a b : Int) : Int → Prop := fun x => (b < a → x = a) ∧ (a ≤ b → a ≤ x ∧ x ≤ b)
set_option maxHeartbeats 400000 in
theorem range_any (p : Nat) (a b : Int) (w : World) (h : TapeOk w p) (ha : -1000000 ≤ a) (ha' : a ≤ 1000000) (hb : -1000000 ≤ b) (hb' : b ≤ 1000000) :
    Calls Try.prog 19 #[.pointer (some ⟨p, 0, none⟩), .int .i64 a, .int .i64 b] w (Ret (IntIn (Between a b)) p w) := by
  have HH := Lib.hid h; clear h
  go_enter Try.func19, Try.ntmps19
  go_wp2_with fail
  refine (next_any p _ _ HH.out (by omega)).mono ?_
  rintro e w1 ⟨v, rfl, ⟨x, rfl, hx1, hx2⟩, ht, hc⟩
  have HT := Lib.hid ht; clear ht
  have HC := Lib.hid hc; clear hc
  have hx : 0 ≤ x ∧ x ≤ 2000001 := by omega
  have HX : Hid (Between a b (a + x)) := ⟨by omega, by omega⟩
  clear hx1 hx2
  go_wp2_with fail
  go_ret
  exact ⟨_, rfl, ⟨_, rfl, HX⟩, HT.out, HC.out⟩

def IsBool : World → Value → Prop := fun _ v => ∃ x : Bool, v = .bool x
set_option maxHeartbeats 400000 in
theorem one_any (p : Nat) (n : Int) (w : World) (h : TapeOk w p) (ha : -1000000 ≤ n) (ha' : n ≤ 1000000) :
    Calls Try.prog 15 #[.pointer (some ⟨p, 0, none⟩), .int .i64 n] w (Ret IsBool p w) := by
  have HH := Lib.hid h; clear h
  go_enter Try.func15, Try.ntmps15
  go_wp2_with fail
  refine (next_any p _ _ HH.out (by omega)).mono ?_
  rintro e w1 ⟨v, rfl, ⟨x, rfl, hx1, hx2⟩, ht, hc⟩
  have HT := Lib.hid ht; clear ht
  have HC := Lib.hid hc; clear hc
  clear hx1 hx2
  go_wp2_with fail
  go_ret
  exact ⟨_, rfl, ⟨_, rfl⟩, HT.out, HC.out⟩

set_option maxHeartbeats 400000 in
theorem pick_any (p : Nat) (A : Option Addr) (n c : Nat) (vs : List Int) (w : World) (h : TapeOk w p) (hi : Ints w (Is p) A n c vs) (h0 : 0 < n) (hn : n ≤ 1000000) :
    Calls Try.prog 44 #[.pointer (some ⟨p, 0, none⟩), .slice A n c] w (Ret (IntIn (· ∈ vs)) p w) := by
  have HH := Lib.hid h; clear h
  have HI := Lib.hid hi; clear hi
  go_enter Try.func44, Try.ntmps44
  go_wp2_with fail
  refine (next_any p _ _ HH.out (by omega)).mono ?_
  rintro e w1 ⟨v, rfl, ⟨x, rfl, hx1, hx2⟩, ht, hc⟩
  obtain ⟨k, rfl⟩ := Int.eq_ofNat_of_zero_le (hx2 (by omega)).1
  have hk : k < n := by omega
  clear hx1 hx2
  have hi1 := HI.out.chg _ hc (fun _ _ h => h)
  obtain ⟨b, off, rfl, -, -, hcell⟩ := hi1.int_at h0
  have hck := hcell k hk
  have HM : Hid (nth vs k ∈ vs) := List.mem_of_getElem? (nth_some (by rw [hi1.len]; exact hk))
  clear hcell hi1
  have HT := Lib.hid ht; clear ht
  have HC := Lib.hid hc; clear hc
  go_wp2_with fail
  go_ret
  exact ⟨_, rfl, ⟨_, rfl, HM⟩, HT.out, HC.out⟩

/-- Pick out of a list that the statement itself builds. -/
theorem pick_new (p g : Nat) (vs : List Int) (n : Nat) (t : TypeId) (cs : Array Value) (w : World) (h : TapeOk w p) (hb : Blk w g t cs) (hcs : cs = (vs.map (Value.int .i64)).toArray) (hn : n = vs.length) (h0 : 0 < vs.length ∧ vs.length ≤ 1000) (hg : ¬ Is p g) :
    Calls Try.prog 44 #[.pointer (some ⟨p, 0, none⟩), .slice (some ⟨g, 0, none⟩) n n] w (Ret (IntIn (· ∈ vs)) p w) :=
  pick_any p _ n n vs w h (ints_blk hb vs hcs hg hn hn rfl) (by omega) (by omega)

def wildL : List Int := [-1, 0, 1, 2, 31, 32, 99, 100, 200, 201, 9999, 10000, 1000000, 1000001, 1152921504606846976, 1152921504606846977, -1152921504606846976, 9223372036854775807, -9223372036854775808]
set_option maxHeartbeats 400000 in
theorem wild_any (p : Nat) (w : World) (h : TapeOk w p) : Calls Try.prog 45 #[.pointer (some ⟨p, 0, none⟩)] w (Ret (IntIn (· ∈ wildL)) p w) := by
  have HH := Lib.hid h; clear h
  go_enter Try.func45, Try.ntmps45
  go_wp2_with fail
  have hlt := HH.out.lt
  refine (pick_any p _ _ _ wildL _ (HH.out.keep ((Chg.refl _ w).alloc _)) (ints_lit w wildL _ rfl (by show ¬ _ = p; omega) rfl rfl rfl) (by decide) (by decide)).mono ?_
  rintro e w1 ⟨v, rfl, ⟨x, rfl, hx⟩, ht, hc⟩
  have HT := Lib.hid ht; clear ht
  have HC := Lib.hid hc; clear hc
  have HX := Lib.hid hx; clear hx
  go_wp2_with fail
  go_ret
  exact ⟨_, rfl, ⟨_, rfl, HX⟩, HT.out, ((Chg.refl _ w).alloc _).trans HC.out⟩
end Go.Proofs.Ytipelkbdonfkoaa
