/- strings.ContainsAny at the two ends of a line, as a contract: where it tells none there is none. -/
import Derived.Test.YtbcbjgomnhajdaaVRPAm
import Derived.Test.YtbcbjgomnhajdaaVRPs
import Derived.Test.YtbcbjgomnhajdaaVC
set_option linter.unusedSimpArgs false
set_option linter.unusedVariables false
namespace Go.Proofs
open Go.Shelf Go.RowKit Go.Lib
variable {P : Program} {ρ : Ren}
theorem noAny_of_neg {s chars : List UInt8} (h : Lib.indexAny s chars < 0) : ∀ (j : Nat) b, s[j]? = some b → chars.contains b = false := by
  have key : ∀ n, Lib.NoAny s chars n := by
    intro n
    induction n with
    | zero => exact Lib.NoAny.zero _ _
    | succ n ih =>
      intro j b hj hb
      by_cases e : j < n
      · exact ih j b e hb
      · obtain rfl : j = n := by omega
        cases hc : chars.contains b
        · rfl
        · have := Lib.indexAny_hit ih hb hc
          omega
  exact fun j b hb => key (j + 1) j b (by omega) hb
theorem Any.indexEnds (L : Lays.n153 P ρ) (hv116 : ∀ w, (zeroValue (ρ.t 116)).run P w = .ok (.agg (Array.replicate 256 (.bool false))) w) (hi116 : (P.info? (ρ.t 116)).map (·.size) = some 256) (s : ByteArray) (w : World) (hs : s.size < 4294967281) :
    Calls P (ρ.f 153) #[.string s, .string crlf] w fun e w' => ∃ v, e = .returned (.int .i64 v) ∧ (v < 0 → Clean s s.size) ∧ Below w.heap.size w w' := by
  by_cases h8 : s.size ≤ 8
  · exact Any.indexEnds_short L s w h8
  · refine (Any.strings_IndexAny_long L hv116 hi116 s crlf w (by decide) (by omega) hs (by decide) ?_).mono fun e w' ⟨h1, h2⟩ => ⟨_, h1, fun hneg j b _ hb => ?_, ?_⟩
    · intro j b hb
      have hb2 : ([13, 10] : List UInt8)[j]? = some b := hb
      match j, hb2 with
      | 0, h => injection h with h; subst h; decide
      | 1, h => injection h with h; subst h; decide
    · have := noAny_of_neg hneg j b hb
      refine ⟨?_, ?_⟩
      · rintro rfl; revert this; decide
      · rintro rfl; revert this; decide
    · rw [h2]
      exact ((Below.refl _ _).alloc (Nat.le_refl _) _).alloc (by simp) _
set_option maxHeartbeats 1000000 in
theorem Any.containsEnds (L : Lays.n150 P ρ) (hv116 : ∀ w, (zeroValue (ρ.t 116)).run P w = .ok (.agg (Array.replicate 256 (.bool false))) w) (hi116 : (P.info? (ρ.t 116)).map (·.size) = some 256) (s : ByteArray) (w : World) (hs : s.size < 4294967281) :
    Calls P (ρ.f 150) #[.string s, .string crlf] w fun e w' => ∃ b, e = .returned (.bool b) ∧ (b = false → Clean s s.size) ∧ Below w.heap.size w w' := by
  have c := Any.indexEnds { L with } hv116 hi116 s w hs
  have t3 := L.t3; have a3 := L.a3; have z3 := L.z3; have v3 := L.v3
  have t4 := L.t4; have a4 := L.a4; have z4 := L.z4; have v4 := L.v4
  have t9 := L.t9; have a9 := L.a9; have z9 := L.z9; have v9 := L.v9
  have e153 : ∀ args w, (callFunc (ρ.f 153) args).run P w = .ok (.enter (ρ.f 153) args) w := enters_of L.f153 (by kernel_rfl) rfl
  go_enter L.f150, Body.n150_ntmps ρ
  go_wp2_with (go_at_fn (ρ.f 153); refine c.mono ?_; rintro e w' ⟨v, rfl, hv, hw⟩)
  go_ret
  exact ⟨_, rfl, fun h => hv (by have := of_decide_eq_false h; omega), hw⟩
end Go.Proofs
namespace Go.Proofs.YtbcbjgomnhajdaaK
open Go Go.Proofs.YtbcbjgomnhajdaaV Go.Proofs
def kCA (sg : Sig) : Sig × Con := (sg, mkRel (fun x : ByteArray × ByteArray => [aS x.1, aS x.2]) (fun x => x.1.size ≤ 1000000 ∧ x.2 = crlf) (fun b : Bool => [aB b]) (fun x b => b = false → Clean x.1 x.1.size))
theorem outs_okB {m : Addr → Option Value} {w w' : World} {b : Bool} : OutsOk m w w' sg17.own [aB b] := by
  have hg : ∀ (M : Addr → Option Value), ∀ a ∈ [aB b], Go.Proofs.YtbcbjgomnhajdaaV.Good M a := by
    intro M a ha
    simp only [List.mem_cons, List.not_mem_nil, or_false] at ha
    rcases ha with rfl
    exact ⟨.leaf _, rfl⟩
  exact ⟨fun i a ha => ⟨(hg _ a (List.mem_of_getElem? ha)).elt, fun _ => hg _ a (List.mem_of_getElem? ha)⟩, fun p hp => absurd hp (by simp [sg17]), List.Pairwise.nil⟩
theorem h17 : holds Try.prog (kCA sg17) := by
  refine ⟨⟨Try.f17, Try.func17, by kernel_rfl, by kernel_rfl⟩, ?_⟩
  rintro args m w hm hg ⟨⟨s, c⟩, rfl, hp⟩
  obtain ⟨hs, hc⟩ := hp
  simp only at hs hc
  subst hc
  have h116 : (Try.prog.info? (Try.laysCA_ren.t 116)).map (fun i => (i.zero, i.size)) = some (some (.agg (Array.replicate 256 (.bool false))), 256) := by kernel_rfl
  refine (Any.containsEnds Try.laysCA (zero_of_info h116).1 (zero_of_info h116).2 s w (by omega)).mono fun e w' ⟨b, he, hb, hw⟩ => ?_
  refine ⟨[aB b], he, ⟨⟨_, rfl⟩, trivial⟩, ?_, outs_okB, hw⟩
  intro x hx _
  obtain ⟨x1, x2⟩ := x
  simp only [List.cons.injEq, and_true, Prod.mk.injEq, Value.string.injEq] at hx
  obtain ⟨rfl, rfl⟩ := hx
  exact ⟨b, rfl, hb⟩
end Go.Proofs.YtbcbjgomnhajdaaK
