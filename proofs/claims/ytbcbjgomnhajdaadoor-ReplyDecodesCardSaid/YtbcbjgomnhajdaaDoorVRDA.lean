/- strings.IndexAny, ContainsAny at the two ends of a line: the first one, whatever bytes there are; strings.Cut at one byte. -/
import Derived.Test.YtbcbjgomnhajdaaDoorVRDsh
import Derived.Laws.RangeAny
import Derived.Laws.Strings3
import Derived.Shelf.Strings.IndexAnyAll
import Derived.Shelf.Small.Utf8
import Derived.Shelf.RegionOpenPlain
set_option linter.unusedSimpArgs false
set_option linter.unusedVariables false
namespace Go.Proofs
open Go.Shelf Go.RowKit Go.Lib
variable {P : Program} {ρ : Ren}
def crlf : ByteArray := ⟨#[13, 10]⟩
set_option maxHeartbeats 2000000 in
set_option maxRecDepth 1000000 in
theorem Any.indexRune_high (L : Lays.n152 P ρ) (r : Int) (w : World) (h0 : 128 ≤ r) (h1 : r ≤ 2147483647) (hne : r ≠ 65533) (hv : Lib.validRune r = false) :
    Calls P (ρ.f 152) #[.string crlf, .int .i32 r] w fun e w' => e = .returned (.int .i64 (-1)) ∧ Below w.heap.size w w' := by
  have t3 := L.t3; have a3 := L.a3; have z3 := L.z3; have v3 := L.v3
  have t4 := L.t4; have a4 := L.a4; have z4 := L.z4; have v4 := L.v4
  have t5 := L.t5; have a5 := L.a5; have z5 := L.z5; have v5 := L.v5
  have t9 := L.t9; have a9 := L.a9; have z9 := L.z9; have v9 := L.v9
  have t21 := L.t21; have a21 := L.a21; have z21 := L.z21; have v21 := L.v21
  have e137 : ∀ args w, (callFunc (ρ.f 137) args).run P w = .ok (.enter (ρ.f 137) args) w := enters_of L.f137 (by kernel_rfl) rfl
  have e119 : ∀ args w, (callFunc (ρ.f 119) args).run P w = .ok (.enter (ρ.f 119) args) w := enters_of L.f119 (by kernel_rfl) rfl
  have hb1 : decide ((0 : Int) ≤ r) = true := decide_eq_true (by omega)
  have hb2 : decide (r < 128) = false := decide_eq_false (by omega)
  have hb3 : (r == 65533) = false := beq_eq_false_iff_ne.2 hne
  go_enter L.f152, Body.n152_ntmps ρ
  go_wp2_with (go_at_fn (ρ.f 119); refine (Any.utf8_ValidRune { L with } _ _).mono ?_; rintro e w' ⟨rfl, hw⟩; rw [hw, hv])
  go_ret
  exact ⟨rfl, Below.refl _ _⟩
theorem iter_below (w : World) (s : ByteArray) (pos : Nat) : Below w.heap.size w (w.iter s pos) := (Below.refl _ _).alloc (Nat.le_refl _) _
set_option maxHeartbeats 2000000 in
set_option maxRecDepth 1000000 in
theorem Any.indexRune_err (L : Lays.n152 P ρ) (w : World) :
    Calls P (ρ.f 152) #[.string crlf, .int .i32 65533] w fun e w' => e = .returned (.int .i64 (-1)) ∧ Below w.heap.size w w' := by
  have t3 := L.t3; have a3 := L.a3; have z3 := L.z3; have v3 := L.v3
  have t4 := L.t4; have a4 := L.a4; have z4 := L.z4; have v4 := L.v4
  have t5 := L.t5; have a5 := L.a5; have z5 := L.z5; have v5 := L.v5
  have t9 := L.t9; have a9 := L.a9; have z9 := L.z9; have v9 := L.v9
  have t21 := L.t21; have a21 := L.a21; have z21 := L.z21; have v21 := L.v21
  have e137 : ∀ args w, (callFunc (ρ.f 137) args).run P w = .ok (.enter (ρ.f 137) args) w := enters_of L.f137 (by kernel_rfl) rfl
  have e119 : ∀ args w, (callFunc (ρ.f 119) args).run P w = .ok (.enter (ρ.f 119) args) w := enters_of L.f119 (by kernel_rfl) rfl
  have hsz : crlf.size = 2 := rfl
  go_enter L.f152, Body.n152_ntmps ρ
  go_wp2
  go_loopg [5, 6] 2 (fun g _ _ wx => ∃ i : Nat, i + g = 2 ∧ wx = w.iter crlf i)
  case atStart => exact ⟨0, by omega, rfl⟩
  case round =>
    obtain ⟨i, hig, rfl⟩ := hrel
    cases gk with
    | zero =>
      obtain rfl : i = 2 := by omega
      have hnx := run_next_end (P := P) w crlf 2
      go_wp2
      go_ret
      exact ⟨rfl, iter_below _ _ _⟩
    | succ g =>
      have hi : i < crlf.size := by omega
      obtain ⟨x, hx⟩ : ∃ x : UInt8, crlf[i]'hi = x := ⟨_, rfl⟩
      have hx128 : x.toNat < 128 := by
        rw [← hx]
        have h2 : i = 0 ∨ i = 1 := by omega
        rcases h2 with rfl | rfl
        · show (13 : UInt8).toNat < 128; decide
        · show (10 : UInt8).toNat < 128; decide
      have hnx := fun ty => run_next_ascii (P := P) w crlf i ty hi (by rw [hx]; exact hx128)
      rw [hx] at hnx
      have hb : (((x.toNat : Int)) == 65533) = false := beq_eq_false_iff_ne.2 (by omega)
      go_wp2
      go_roundg g
      case measure => omega
      case rel => exact ⟨i + 1, by omega, rfl⟩
theorem encode_high {r : Int} (h0 : 128 ≤ r) (hne : r ≠ 65533) (hv : Lib.validRune r = true) : ∃ rs : ByteArray, Utf8.encode r = rs ∧ (rs.size = 2 ∧ (∃ (h : 1 < rs.size), 128 ≤ (rs[1]'h).toNat) ∨ rs.size = 3 ∨ rs.size = 4) := by
  obtain ⟨c, hc⟩ : ∃ c, c = (if Utf8.valid r then r.toNat else Utf8.runeError) := ⟨_, rfl⟩
  have hr : 128 ≤ c := by
    rw [hc]; split
    · omega
    · decide
  have he : Utf8.encode r = (if c < 128 then ⟨#[UInt8.ofNat c]⟩ else if c < 2048 then ⟨#[UInt8.ofNat (192 + c / 64), UInt8.ofNat (128 + c % 64)]⟩ else if c < 65536 then ⟨#[UInt8.ofNat (224 + c / 4096), UInt8.ofNat (128 + c / 64 % 64), UInt8.ofNat (128 + c % 64)]⟩
      else ⟨#[UInt8.ofNat (240 + c / 262144), UInt8.ofNat (128 + c / 4096 % 64), UInt8.ofNat (128 + c / 64 % 64), UInt8.ofNat (128 + c % 64)]⟩ : ByteArray) := by rw [hc]; rfl
  rw [if_neg (by omega)] at he
  by_cases h1 : c < 2048
  · rw [if_pos h1] at he
    refine ⟨_, he, .inl ⟨rfl, (show 1 < 2 by omega), ?_⟩⟩
    show 128 ≤ (UInt8.ofNat (128 + c % 64)).toNat
    rw [UInt8.toNat_ofNat']; omega
  · rw [if_neg h1] at he
    by_cases h2 : c < 65536
    · rw [if_pos h2] at he; exact ⟨_, he, .inr (.inl rfl)⟩
    · rw [if_neg h2] at he; exact ⟨_, he, .inr (.inr rfl)⟩
theorem below_drewN' {B : Nat} {w W : World} (h : Below B w W) (n : Nat) : Below B w (W.drewN n) := ⟨h.os, h.tape, h.output, h.size, h.block⟩
set_option maxHeartbeats 2000000 in
set_option maxRecDepth 1000000 in
theorem Any.indexRune_valid (L : Lays.n152 P ρ) (r : Int) (w : World) (h0 : 128 ≤ r) (h1 : r ≤ 2147483647) (hne : r ≠ 65533) (hv : Lib.validRune r = true) :
    Calls P (ρ.f 152) #[.string crlf, .int .i32 r] w fun e w' => e = .returned (.int .i64 (-1)) ∧ Below w.heap.size w w' := by
  have t3 := L.t3; have a3 := L.a3; have z3 := L.z3; have v3 := L.v3
  have t4 := L.t4; have a4 := L.a4; have z4 := L.z4; have v4 := L.v4
  have t5 := L.t5; have a5 := L.a5; have z5 := L.z5; have v5 := L.v5
  have t9 := L.t9; have a9 := L.a9; have z9 := L.z9; have v9 := L.v9
  have t21 := L.t21; have a21 := L.a21; have z21 := L.z21; have v21 := L.v21
  have e137 : ∀ args w, (callFunc (ρ.f 137) args).run P w = .ok (.enter (ρ.f 137) args) w := enters_of L.f137 (by kernel_rfl) rfl
  have e119 : ∀ args w, (callFunc (ρ.f 119) args).run P w = .ok (.enter (ρ.f 119) args) w := enters_of L.f119 (by kernel_rfl) rfl
  have hb1 : decide ((0 : Int) ≤ r) = true := decide_eq_true (by omega)
  have hb2 : decide (r < 128) = false := decide_eq_false (by omega)
  have hb3 : (r == 65533) = false := beq_eq_false_iff_ne.2 hne
  have hsz : crlf.size = 2 := rfl
  have mixed := L.mixed
  go_enter L.f152, Body.n152_ntmps ρ
  go_wp2_with (go_at_fn (ρ.f 119); refine (Any.utf8_ValidRune { L with } _ _).mono ?_; rintro e w' ⟨rfl, hw⟩; rw [hw, hv])
  have u9 := run_underlying L.t9; have u21 := run_underlying L.t21
  obtain ⟨rs, hrs, hcat⟩ := encode_high h0 hne hv
  have hcv : ∀ w, (convert (ρ.t 21) (ρ.t 9) (.int .i32 r)).run P w = .ok (.string rs) w := by
    intro w
    simp [convert, u9, u21, t9, t21, Conv.intToString, hrs]
  go_step3
  go_wp2
  obtain ⟨j, hj⟩ : ∃ j : Nat, (rs.size : Int) - 1 = (j : Int) := ⟨rs.size - 1, by omega⟩
  rw [hj]
  go_loopg [9, 10, 11, 12] 1 (fun g v9 _ _ _ wx => v9 = .int .i64 (j : Int) ∧ wx = w)
  case atStart => exact ⟨rfl, rfl⟩
  case round =>
    obtain ⟨rfl, rfl⟩ := hrel
    rcases hcat with ⟨e, hlt, hy⟩ | e | e
    · have hj1 : j = 1 := by omega
      have hjc : j < crlf.size := by rw [hsz]; omega
      have hjr : j < rs.size := by omega
      have hj2 : (j : Int) < 2 := by omega
      obtain ⟨y, hy1⟩ : ∃ y : UInt8, rs[j]'hjr = y := ⟨_, rfl⟩
      have hyy : rs[1]'hlt = y := by rw [← hy1]; congr 1; exact hj1.symm
      rw [hyy] at hy
      have hc1 : crlf[j]'hjc = 10 := by subst hj1; rfl
      have hjge : 1 ≤ j := by omega
      clear hyy hj1 hj
      have hyz : ((10 : Int) == (y.toNat : Int)) = false := beq_eq_false_iff_ne.2 (by omega)
      go_wp2
      go_step3
      go_wp2_with fail
      go_quiet_o (fail)
      go_wp2_with fail
      have hj3 : (j : Int) + 1 ≤ 2 := by omega
      have hj4 : (0 : Int) ≤ (j : Int) + 1 := by omega
      have hB : Below wr.heap.size wr (wr.drewN nq) := below_drewN' (Below.refl _ _) _
      generalize wr.drewN nq = w2 at hB ⊢
      have hkw : IntKind.i64.wrap ((j : Int) + 1) = (j : Int) + 1 := by rw [IntKind.wrap_i64]; omega
      have hib : Lib.indexByte (crlf.extract (j + 1) 2).data.toList (y.toNat : Int).toNat.toUInt8 = -1 := by
        have hj1 : j = 1 := by omega
        subst hj1
        rfl
      go_quiet_o (first | (go_at_fn (ρ.f 137); refine Calls.quiet_of_same (v := .int .i64 (-1)) ((Any.strings_IndexByte { L with } _ _ _).mono ?_); rintro e w' ⟨rfl, hw⟩; rw [hib]; exact ⟨rfl, hw⟩))
      go_wp2_with fail
      rw [Exit.noGoto_ret]
      go_wp2
      rw [Exit.noGoto_ret]
      go_ret
      exact ⟨rfl, below_drewN' hB _⟩
    · have e2 : ¬ ((j : Int) < 2) := by omega
      go_wp2
      go_ret
      exact ⟨rfl, Below.refl _ _⟩
    · have e2 : ¬ ((j : Int) < 2) := by omega
      go_wp2
      go_ret
      exact ⟨rfl, Below.refl _ _⟩
/-- strings.IndexRune at the two ends of a line, at any rune. -/
theorem Any.indexRune_any (L : Lays.n152 P ρ) (r : Int) (w : World) (h0 : 128 ≤ r) (h1 : r ≤ 2147483647) :
    Calls P (ρ.f 152) #[.string crlf, .int .i32 r] w fun e w' => e = .returned (.int .i64 (-1)) ∧ Below w.heap.size w w' := by
  by_cases hne : r = 65533
  · subst hne; exact Any.indexRune_err L w
  cases hv : Lib.validRune r
  · exact Any.indexRune_high L r w h0 h1 hne hv
  · exact Any.indexRune_valid L r w h0 h1 hne hv
section
/-- The iterator over a text stands at a place of the heap, whatever lies behind it. -/
structure Iter (b : Nat) (s : ByteArray) (pos : Nat) (w W : World) : Prop where
  at_ : W.heap[b]? = some (.stringIter s pos)
  below : Below b w W
def World.stepped (W : World) (b : Nat) (s : ByteArray) (pos : Nat) : World := { W with heap := W.heap.setIfInBounds b (.stringIter s pos) }
theorem Iter.step {b : Nat} {s : ByteArray} {pos : Nat} {w W : World} (h : Iter b s pos w W) (q : Nat) : Iter b s q w (World.stepped W b s q) := by
  have hb : b < W.heap.size := by
    rcases Nat.lt_or_ge b W.heap.size with h1 | h1
    · exact h1
    · have := h.at_; rw [Array.getElem?_eq_none h1] at this; cases this
  refine ⟨?_, ⟨h.below.os, h.below.tape, h.below.output, ?_, fun k hk => ?_⟩⟩
  · simp [World.stepped, Array.getElem?_setIfInBounds, hb]
  · have := h.below.size; simpa [World.stepped] using this
  · rw [← h.below.block k hk]; simp [World.stepped, Array.getElem?_setIfInBounds]; omega
theorem Iter.more {b : Nat} {s : ByteArray} {pos : Nat} {w W W' : World} (h : Iter b s pos w W) (g : Below W.heap.size W W') : Iter b s pos w W' := by
  have hb : b < W.heap.size := by
    rcases Nat.lt_or_ge b W.heap.size with h1 | h1
    · exact h1
    · have := h.at_; rw [Array.getElem?_eq_none h1] at this; cases this
  exact ⟨by rw [g.block b hb]; exact h.at_, h.below.trans ⟨g.os, g.tape, g.output, g.size, fun k hk => g.block k (by omega)⟩⟩
theorem run_next_iter {b : Nat} {s : ByteArray} {pos : Nat} {w W : World} (hI : Iter b s pos w W) (ty : TypeId) (h : pos < s.size) :
    (Instr.next (.pointer (some ⟨b, 0, none⟩)) true ty).run P W =
      .ok (.tuple #[.bool true, .int .i64 pos, .int .i32 (Utf8.decode s pos).1]) (World.stepped W b s (pos + (Utf8.decode s pos).2)) := by
  simp only [Instr.next, getObj, setObj, Sem.run_bind, Sem.run, hI.at_, Result.andThen, h, if_true]
  simp [goInt, Sem.run, World.stepped]
theorem run_next_over {b : Nat} {s : ByteArray} {pos : Nat} {w W : World} (hI : Iter b s pos w W) (ty : TypeId) (h : ¬ pos < s.size) :
    (Instr.next (.pointer (some ⟨b, 0, none⟩)) true ty).run P W = .ok (.tuple #[.bool false]) W := by
  simp [Instr.next, getObj, Sem.run, hI.at_, h]
end

open Go.Shelf Go.RowKit Go.Lib
variable {P : Program} {ρ : Ren}
/-- No end of a line up to a place. -/
def Clean (s : ByteArray) (i : Nat) : Prop := ∀ j b, j < i → s.data.toList[j]? = some b → b ≠ 13 ∧ b ≠ 10
theorem Clean.zero (s : ByteArray) : Clean s 0 := fun j _ h => absurd h (Nat.not_lt_zero _)
theorem crlf_contains (x : UInt8) (h : Lib.indexByte crlf.data.toList x < 0) : x ≠ 13 ∧ x ≠ 10 := by
  have h1 : Lib.indexByte [13, 10] x < 0 := h
  refine ⟨?_, ?_⟩
  · rintro rfl; revert h1; decide
  · rintro rfl; revert h1; decide
theorem Clean.one {s : ByteArray} {i : Nat} {x : UInt8} (h : Clean s i) (hx : s.data.toList[i]? = some x) (hn : x ≠ 13 ∧ x ≠ 10) : Clean s (i + 1) := by
  intro j b hj hb
  by_cases e : j = i
  · subst e; rw [hx] at hb; injection hb with hb; subst hb; exact hn
  · exact h j b (by omega) hb
theorem decode_tail (s : ByteArray) (pos : Nat) (h : pos < s.size) (ha : 128 ≤ (s[pos]'h).toNat) : ∀ k, k < (Utf8.decode s pos).2 → pos + k < s.size → 128 ≤ (s.get! (pos + k)).toNat := by
  have h0 : 128 ≤ (s.get! (pos + 0)).toNat := by rw [get_at s pos h]; exact ha
  have hn : ¬ (s.get! (pos + 0)).toNat < 128 := by omega
  intro k hk hlt
  simp only [Utf8.decode, hn, if_false] at hk
  revert hk
  repeat' split
  all_goals intro hk
  all_goals (try simp_all [Utf8.runeError])
  all_goals (have h4 : k = 0 ∨ k = 1 ∨ k = 2 ∨ k = 3 := by omega)
  all_goals (rcases h4 with rfl | rfl | rfl | rfl)
  all_goals first | exact h0 | omega
theorem Clean.many {s : ByteArray} {i : Nat} (h : Clean s i) (hi : i < s.size) (ha : 128 ≤ (s[i]'hi).toNat) : Clean s (i + (Utf8.decode s i).2) := by
  intro j b hj hb
  by_cases e : j < i
  · exact h j b e hb
  · have hjs : j < s.size := by
      rcases Nat.lt_or_ge j s.size with h1 | h1
      · exact h1
      · rw [List.getElem?_eq_none (by rw [← Lib.size_eq]; exact h1)] at hb; cases hb
    have := decode_tail s i hi ha (j - i) (by omega) (by omega)
    have e2 : i + (j - i) = j := by omega
    rw [e2] at this
    have e3 : s.get! j = b := by
      have h5 := get_at s j hjs
      have h6 := Lib.data_getElem? s j hjs
      rw [hb] at h6; injection h6 with h6; rw [h6, ← h5]; rfl
    rw [e3] at this
    refine ⟨?_, ?_⟩
    · rintro rfl; revert this; decide
    · rintro rfl; revert this; decide
theorem Clean.whole {s : ByteArray} {i : Nat} (h : Clean s i) (hi : s.size ≤ i) : Clean s s.size := fun j b hj hb => h j b (by omega) hb
/-- The first end of a line. -/
def EndAt (s : ByteArray) (v : Int) : Prop := (v = -1 ∧ Clean s s.size) ∨ ∃ (i : Nat) (x : UInt8), v = i ∧ Clean s i ∧ s.data.toList[i]? = some x ∧ (x = 13 ∨ x = 10)
theorem crlf_hit (x : UInt8) (h : 0 ≤ Lib.indexByte crlf.data.toList x) : x = 13 ∨ x = 10 := by
  by_cases h1 : x = 13
  · exact .inl h1
  by_cases h2 : x = 10
  · exact .inr h2
  exfalso
  have e : crlf.data.toList = [13, 10] := rfl
  rw [e] at h
  have n1 : (13 == x) = false := beq_eq_false_iff_ne.2 fun h => h1 h.symm
  have n2 : (10 == x) = false := beq_eq_false_iff_ne.2 fun h => h2 h.symm
  simp [Lib.indexByte, n1, n2, show ¬(13 = x) from fun h => h1 h.symm, show ¬(10 = x) from fun h => h2 h.symm] at h
set_option maxHeartbeats 8000000 in
set_option maxRecDepth 1000000 in
theorem Any.indexEnds_short (L : Lays.n153 P ρ) (s : ByteArray) (w : World) (h8 : s.size ≤ 8) :
    Calls P (ρ.f 153) #[.string s, .string crlf] w fun e w' => ∃ v, e = .returned (.int .i64 v) ∧ EndAt s v ∧ Below w.heap.size w w' := by
  have hemp : crlf.toList.isEmpty = false := by rw [Lib.toList_data]; rfl
  have hcs : crlf.size = 2 := rfl
  have hn1 : ((crlf.size : Int) == 1) = false := rfl
  have h8z : decide ((8 : Int) < (s.size : Int)) = false := decide_eq_false (by omega)
  have t3 := L.t3; have a3 := L.a3; have z3 := L.z3; have v3 := L.v3
  have t4 := L.t4; have a4 := L.a4; have z4 := L.z4; have v4 := L.v4
  have t5 := L.t5; have a5 := L.a5; have z5 := L.z5; have v5 := L.v5
  have t9 := L.t9; have a9 := L.a9; have z9 := L.z9; have v9 := L.v9
  have t21 := L.t21; have a21 := L.a21; have z21 := L.z21; have v21 := L.v21
  have e152 : ∀ args w, (callFunc (ρ.f 152) args).run P w = .ok (.enter (ρ.f 152) args) w := enters_of L.f152 (by kernel_rfl) rfl
  have e226 : ∀ args w, (callFunc (ρ.f 226) args).run P w = .ok (.enter (ρ.f 226) args) w := enters_of L.f226 (by kernel_rfl) rfl
  go_enter L.f153, Body.n153_ntmps ρ
  go_wp2_with (go_at_fn (ρ.f 226); refine (Any.strings_shouldUseASCIISet { L with } _ _).mono ?_; rintro e w' ⟨rfl, hw⟩; rw [hw, h8z])
  go_loopg [9, 10] s.size (fun g _ _ wx => ∃ i : Nat, s.size ≤ i + g ∧ Iter w.heap.size s i w wx ∧ Clean s i)
  case atStart => exact ⟨0, by omega, ⟨World.iter_heap _ _ _, iter_below _ _ _⟩, Clean.zero _⟩
  case round =>
    obtain ⟨i, hig, hI, hno⟩ := hrel
    have HN : Aside (Clean s i) := hno
    clear hno
    by_cases hi : i < s.size
    · obtain ⟨x, hx⟩ : ∃ x : UInt8, s[i]'hi = x := ⟨_, rfl⟩
      have hxl : s.data.toList[i]? = some x := by rw [← hx]; exact Lib.data_getElem? s i hi
      have hnx := fun ty => run_next_iter (P := P) hI ty hi
      have Hx : Aside (s.data.toList[i]? = some x) := hxl
      clear hxl
      cases gk with
      | zero => omega
      | succ g =>
        by_cases h128 : x.toNat < 128
        · have hd := decode_ascii s i hi (by rw [hx]; exact h128)
          rw [hx] at hd
          rw [hd] at hnx
          clear hd
          have hI2 := hI.step (i + 1)
          have hback : ((x.toNat : Int)).toNat.toUInt8 = x := by simp
          obtain ⟨v, hv⟩ : ∃ v : Int, Lib.indexByte crlf.data.toList x = v := ⟨_, rfl⟩
          have Hv : Aside (Lib.indexByte crlf.data.toList x = v) := hv
          by_cases hlt : (0 : Int) ≤ v
          · go_wp2_with (go_at_fn (ρ.f 152); refine (Any.strings_IndexRune_ascii { L with } _ _ _ (by omega) (by omega)).mono ?_; rintro e w' ⟨rfl, hw⟩; rw [hw, hback, hv])
            go_ret
            exact ⟨_, rfl, .inr ⟨i, x, rfl, HN.out, Hx.out, crlf_hit x (by rw [Hv.out]; exact hlt)⟩, hI2.below⟩
          · go_wp2_with (go_at_fn (ρ.f 152); refine (Any.strings_IndexRune_ascii { L with } _ _ _ (by omega) (by omega)).mono ?_; rintro e w' ⟨rfl, hw⟩; rw [hw, hback, hv])
            go_roundg g
            case measure => omega
            case rel => exact ⟨i + 1, by omega, hI2, HN.out.one Hx.out (crlf_contains x (by rw [Hv.out]; omega))⟩
        · have hd := decode_high s i hi (by rw [hx]; omega)
          have hl := decode_le s i
          have hm : Clean s (i + (Utf8.decode s i).2) := HN.out.many hi (by rw [hx]; omega)
          have hI2 := hI.step (i + (Utf8.decode s i).2)
          obtain ⟨r, hr⟩ : ∃ r : Nat, (Utf8.decode s i).1 = r := ⟨_, rfl⟩
          obtain ⟨q, hq⟩ : ∃ q : Nat, (Utf8.decode s i).2 = q := ⟨_, rfl⟩
          rw [hr, hq] at hd
          rw [hr] at hl
          rw [hq] at hm hI2
          rw [hr, hq] at hnx
          have Hm : Aside (Clean s (i + q)) := hm
          clear hm hr hq hx
          go_wp2_with (go_at_fn (ρ.f 152); refine (Any.indexRune_any { L with } _ _ (by omega) (by omega)).mono ?_; rintro e w' ⟨rfl, hB⟩)
          go_roundg g
          case measure => omega
          case rel => exact ⟨i + q, by omega, hI2.more hB, Hm.out⟩
    · have hnx := fun ty => run_next_over (P := P) hI ty hi
      go_wp2
      go_ret
      exact ⟨_, rfl, .inl ⟨rfl, HN.out.whole (by omega)⟩, hI.below⟩
theorem noAny_of_neg {s chars : List UInt8} (h : Lib.indexAny s chars < 0) : ∀ (j : Nat) b, s[j]? = some b → chars.contains b = false := by
  have key : ∀ n, Lib.NoAny s chars n := by
    intro n
    induction n with
    | zero => exact Lib.NoAny.zero _ _
    | succ n ih =>
      intro j b hj hb
      by_cases e : j < n
      · exact ih j b e hb
      · obtain rfl : j = n := by omega
        cases hc : chars.contains b
        · rfl
        · have := Lib.indexAny_hit ih hb hc
          omega
  exact fun j b hb => key (j + 1) j b (by omega) hb
theorem indexAny_at : ∀ (l chars : List UInt8), 0 ≤ Lib.indexAny l chars → ∃ (i : Nat) (x : UInt8), Lib.indexAny l chars = i ∧ (∀ j b, j < i → l[j]? = some b → chars.contains b = false) ∧ l[i]? = some x ∧ chars.contains x = true
  | [], chars, h => by simp [Lib.indexAny] at h
  | c :: l, chars, h => by
    by_cases hc : chars.contains c = true
    · exact ⟨0, c, by rw [Lib.indexAny, if_pos hc]; rfl, fun j b hj => absurd hj (Nat.not_lt_zero _), rfl, hc⟩
    · have hge := Lib.indexAny_ge chars l
      rw [Lib.indexAny, if_neg hc] at h
      by_cases hm : Lib.indexAny l chars = -1
      · rw [hm] at h; simp at h
      · obtain ⟨i, x, e, h1, h2, h3⟩ := indexAny_at l chars (by omega)
        refine ⟨i + 1, x, ?_, ?_, h2, h3⟩
        · rw [Lib.indexAny, if_neg hc, if_neg (by simpa using hm), e]; rfl
        · intro j b hj hb
          cases j with
          | zero => simp at hb; subst hb; simpa using hc
          | succ j => exact h1 j b (by omega) (by simpa using hb)
theorem crlf_no (b : UInt8) (h : ([13, 10] : List UInt8).contains b = false) : b ≠ 13 ∧ b ≠ 10 := by
  refine ⟨?_, ?_⟩
  · rintro rfl; revert h; decide
  · rintro rfl; revert h; decide
theorem crlf_in (b : UInt8) (h : ([13, 10] : List UInt8).contains b = true) : b = 13 ∨ b = 10 := by simpa using h
theorem endAt_any (s : ByteArray) : EndAt s (Lib.indexAny s.data.toList crlf.data.toList) := by
  have hge := Lib.indexAny_ge crlf.data.toList s.data.toList
  by_cases h : 0 ≤ Lib.indexAny s.data.toList crlf.data.toList
  · obtain ⟨i, x, e, h1, h2, h3⟩ := indexAny_at _ _ h
    exact .inr ⟨i, x, e, fun j b hj hb => crlf_no b (h1 j b hj hb), h2, crlf_in x h3⟩
  · have hv : Lib.indexAny s.data.toList crlf.data.toList < 0 := by omega
    exact .inl ⟨by omega, fun j b _ hb => crlf_no b (noAny_of_neg hv j b hb)⟩
theorem Any.indexEnds (L : Lays.n153 P ρ) (hv116 : ∀ w, (zeroValue (ρ.t 116)).run P w = .ok (.agg (Array.replicate 256 (.bool false))) w) (hi116 : (P.info? (ρ.t 116)).map (·.size) = some 256) (s : ByteArray) (w : World) (hs : s.size < 4294967281) :
    Calls P (ρ.f 153) #[.string s, .string crlf] w fun e w' => ∃ v, e = .returned (.int .i64 v) ∧ EndAt s v ∧ Below w.heap.size w w' := by
  by_cases h8 : s.size ≤ 8
  · exact Any.indexEnds_short L s w h8
  · refine (Any.strings_IndexAny_long L hv116 hi116 s crlf w (by decide) (by omega) hs (by decide) ?_).mono fun e w' ⟨h1, h2⟩ => ⟨_, h1, endAt_any s, ?_⟩
    · intro j b hb
      have hb2 : ([13, 10] : List UInt8)[j]? = some b := hb
      match j, hb2 with
      | 0, h => injection h with h; subst h; decide
      | 1, h => injection h with h; subst h; decide
    · rw [h2]
      exact ((Below.refl _ _).alloc (Nat.le_refl _) _).alloc (by simp) _
theorem EndAt.none {s : ByteArray} {v : Int} (h : EndAt s v) (hv : v < 0) : Clean s s.size := by
  rcases h with h | ⟨i, x, h, _⟩
  · exact h.2
  · omega
set_option maxHeartbeats 1000000 in
theorem Any.containsEnds (L : Lays.n150 P ρ) (hv116 : ∀ w, (zeroValue (ρ.t 116)).run P w = .ok (.agg (Array.replicate 256 (.bool false))) w) (hi116 : (P.info? (ρ.t 116)).map (·.size) = some 256) (s : ByteArray) (w : World) (hs : s.size < 4294967281) :
    Calls P (ρ.f 150) #[.string s, .string crlf] w fun e w' => ∃ b, e = .returned (.bool b) ∧ (b = false → Clean s s.size) ∧ Below w.heap.size w w' := by
  have c := Any.indexEnds { L with } hv116 hi116 s w hs
  have t3 := L.t3; have a3 := L.a3; have z3 := L.z3; have v3 := L.v3
  have t4 := L.t4; have a4 := L.a4; have z4 := L.z4; have v4 := L.v4
  have t9 := L.t9; have a9 := L.a9; have z9 := L.z9; have v9 := L.v9
  have e153 : ∀ args w, (callFunc (ρ.f 153) args).run P w = .ok (.enter (ρ.f 153) args) w := enters_of L.f153 (by kernel_rfl) rfl
  go_enter L.f150, Body.n150_ntmps ρ
  go_wp2_with (go_at_fn (ρ.f 153); refine c.mono ?_; rintro e w' ⟨v, rfl, hv, hw⟩)
  go_ret
  exact ⟨_, rfl, fun h => EndAt.none hv (by have := of_decide_eq_false h; omega), hw⟩
end Go.Proofs
