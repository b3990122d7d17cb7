/- Library functions of Reply's door, as contracts: strings.ContainsAny, IndexAny at the two ends of a line, Contains at one byte, Cut at a carriage return, HasPrefix. -/
import Derived.Test.YtbcbjgomnhajdaaDoorVRDA
import Derived.Test.YtbcbjgomnhajdaaDoorVRDs
import Derived.Test.YtbcbjgomnhajdaaDoorVC
import Derived.Test.YtbcbjgomnhajdaaDoorVR2p
import Derived.Lib.IndexLaws
set_option linter.unusedSimpArgs false
set_option linter.unusedVariables false
namespace Go.Proofs
open Go.Shelf Go.RowKit Go.Lib
variable {P : Program} {ρ : Ren}
/-- What stands ahead of the first carriage return. -/
def lnB (s : ByteArray) : ByteArray := ⟨(s.data.toList.takeWhile (fun c => c != 13)).toArray⟩
theorem extract_takeWhile {l : List UInt8} : ∀ {o : Nat}, l[o]? = some 13 → (∀ k, k < o → l[k]? ≠ some 13) → l.takeWhile (fun c => c != 13) = l.take o := by
  induction l with
  | nil => intro o h; simp at h
  | cons c l ih =>
    intro o h hk
    cases o with
    | zero => simp at h; subst h; rfl
    | succ o =>
      have hc : c ≠ 13 := fun e => hk 0 (by omega) (by simp [e])
      rw [List.takeWhile_cons_of_pos (by simpa using hc), List.take_succ_cons]
      rw [ih (by simpa using h) (fun k hk2 => by have := hk (k + 1) (by omega); simpa using this)]
theorem takeWhile_self {l : List UInt8} (h : ∀ k : Nat, l[k]? ≠ some (13 : UInt8)) : l.takeWhile (fun c => c != 13) = l := by
  induction l with
  | nil => rfl
  | cons c l ih =>
    have hc : c ≠ 13 := fun e => h 0 (by simp [e])
    rw [List.takeWhile_cons_of_pos (by simpa using hc), ih (fun k => by have := h (k + 1); simpa using this)]
theorem Any.index_cr (L : Lays.n219 P ρ) (s sep : ByteArray) (w : World) (h : sep = ⟨#[13]⟩) :
    Calls P (ρ.f 219) #[.string s, .string sep] w fun e w' => e = .returned (.int .i64 (Lib.indexByte s.data.toList 13)) ∧ w' = w := by
  subst h; exact Any.stringslite_Index_one L s 13 w
set_option maxHeartbeats 2000000 in
set_option maxRecDepth 100000 in
theorem Any.stringslite_Cut_cr (L : Lays.n220 P ρ) (s sep : ByteArray) (w : World) (hs : s.size < 4294967281) (hsep : sep = ⟨#[13]⟩) :
    Calls P (ρ.f 220) #[.string s, .string sep] w fun e w' => (∃ t b, e = .returned (.tuple #[.string (lnB s), .string t, .bool b])) ∧ ∃ n, w' = w.drewN n := by
  have t3 := L.t3; have t4 := L.t4; have t9 := L.t9
  have a3 : ∀ w, (isAgg (ρ.t 3)).run P w = .ok false w := run_isAgg_plain L.t3 rfl; have a4 : ∀ w, (isAgg (ρ.t 4)).run P w = .ok false w := run_isAgg_plain L.t4 rfl; have a9 : ∀ w, (isAgg (ρ.t 9)).run P w = .ok false w := run_isAgg_plain L.t9 rfl
  have e219 : ∀ args w, (callFunc (ρ.f 219) args).run P w = .ok (.enter (ρ.f 219) args) w := enters_of L.f219 (by kernel_rfl) rfl
  have mixed := L.mixed; have z3 := L.z3; have v3 := L.v3; have z4 := L.z4; have v4 := L.v4; have z9 := L.z9; have v9 := L.v9
  have hge := Lib.indexByte_ge s.data.toList 13
  have hI := fun w => Any.index_cr (P := P) (ρ := ρ) { L with } s sep w hsep
  have hz1 : sep.size = 1 := by rw [hsep]; rfl
  clear hsep
  by_cases hx : Lib.indexByte s.data.toList 13 = -1
  · have hl : lnB s = s := by
      have := takeWhile_self (l := s.data.toList) (fun k => Lib.indexByte_none hx k)
      unfold lnB; rw [this]
    rw [hl]
    go_enter L.f220, Body.n220_ntmps ρ
    go_wp2_with (go_at_fn (ρ.f 219); refine (hI _).mono ?_; rintro e w' ⟨rfl, rfl⟩; rw [hx])
    go_ret3
    exact ⟨⟨_, _, rfl⟩, 0, rfl⟩
  · obtain ⟨i, hi⟩ : ∃ i : Nat, Lib.indexByte s.data.toList 13 = i := ⟨(Lib.indexByte s.data.toList 13).toNat, by omega⟩
    obtain ⟨h1, h2⟩ := Lib.indexByte_some hi
    have hlt : i < s.data.toList.length := by
      rcases Nat.lt_or_ge i s.data.toList.length with h | h
      · exact h
      · rw [List.getElem?_eq_none h] at h1; cases h1
    have hsz : s.size = s.data.toList.length := Array.length_toList.symm
    have hl : lnB s = s.extract 0 i := by
      have := extract_takeWhile h1 h2
      unfold lnB; rw [this]
      apply ByteArray.ext
      simp [ByteArray.extract, ByteArray.copySlice]
      apply Array.ext'; simp
    rw [hl]
    have hroom : i + sep.size ≤ s.size := by omega
    have c1 : (0 : Int) ≤ ↑i := by omega
    have c2 : (↑i : Int) ≤ ↑s.size := by omega
    have c3 : (0 : Int) ≤ ↑i + ↑sep.size := by omega
    have c4 : (↑i + ↑sep.size : Int) ≤ ↑s.size := by omega
    clear hz1 h1 h2 hlt hsz hl hge hx
    go_enter L.f220, Body.n220_ntmps ρ
    go_wp2_with (go_at_fn (ρ.f 219); refine (hI _).mono ?_; rintro e w' ⟨rfl, rfl⟩; rw [hi])
    go_region_o
    go_wp2
    go_ret3
    exact ⟨⟨_, _, rfl⟩, 1, rfl⟩
set_option maxHeartbeats 1000000 in
theorem Any.strings_Cut_cr (L : Lays.n145 P ρ) (s : ByteArray) (w : World) (hs : s.size < 4294967281) :
    Calls P (ρ.f 145) #[.string s, .string ⟨#[13]⟩] w fun e w' => (∃ t b, e = .returned (.tuple #[.string (lnB s), .string t, .bool b])) ∧ ∃ n, w' = w.drewN n := by
  have t4 := L.t4; have t9 := L.t9; have t59 := L.t59
  have a4 : ∀ w, (isAgg (ρ.t 4)).run P w = .ok false w := run_isAgg_plain L.t4 rfl; have a9 : ∀ w, (isAgg (ρ.t 9)).run P w = .ok false w := run_isAgg_plain L.t9 rfl; have a59 : ∀ w, (isAgg (ρ.t 59)).run P w = .ok false w := run_isAgg_plain L.t59 rfl
  have e220 : ∀ args w, (callFunc (ρ.f 220) args).run P w = .ok (.enter (ρ.f 220) args) w := enters_of L.f220 (by kernel_rfl) rfl
  have mixed := L.mixed; have z4 := L.z4; have v4 := L.v4; have z9 := L.z9; have v9 := L.v9; have z59 := L.z59; have v59 := L.v59
  go_enter L.f145, Body.n145_ntmps ρ
  go_wp2_with (go_at_fn (ρ.f 220); refine (Any.stringslite_Cut_cr { L with } _ _ _ hs rfl).mono ?_; rintro e w' ⟨⟨t, b, rfl⟩, n, rfl⟩)
  go_ret3
  exact ⟨⟨_, _, rfl⟩, n, rfl⟩
end Go.Proofs
namespace Go.Proofs.YtbcbjgomnhajdaaDoorK
open Go Go.Proofs.YtbcbjgomnhajdaaDoorV Go.Proofs Go.Proofs.YtbcbjgomnhajdaaDoorK
theorem leaf_ok {m : Addr → Option Value} {w w' : World} {sg : Sig} (hs : sg.own = []) {l : List Atom} (h : ∀ a ∈ l, (∃ n, a = aI n) ∨ (∃ b, a = aB b) ∨ (∃ s, a = aS s)) : OutsOk m w w' sg.own l := by
  have hg : ∀ (M : Addr → Option Value), ∀ a ∈ l, Go.Proofs.YtbcbjgomnhajdaaDoorV.Good M a := by
    intro M a ha
    rcases h a ha with ⟨n, rfl⟩ | ⟨b, rfl⟩ | ⟨s, rfl⟩ <;> exact ⟨.leaf _, rfl⟩
  exact ⟨fun i a ha => ⟨(hg _ a (List.mem_of_getElem? ha)).elt, fun _ => hg _ a (List.mem_of_getElem? ha)⟩, fun p hp => absurd hp (by simp [hs]), by rw [hs]; exact List.Pairwise.nil⟩
def kCA (sg : Sig) : Sig × Con := (sg, mkRel (fun x : ByteArray × ByteArray => [aS x.1, aS x.2]) (fun x => x.1.size ≤ 1000000 ∧ x.2 = crlf) (fun b : Bool => [aB b]) (fun x b => b = false → Clean x.1 x.1.size))
def kIA (sg : Sig) : Sig × Con := (sg, mkRel (fun x : ByteArray × ByteArray => [aS x.1, aS x.2]) (fun x => x.1.size ≤ 1000000 ∧ x.2 = crlf) (fun v : Int => [aI v]) (fun x v => EndAt x.1 v))
def kCut (sg : Sig) : Sig × Con := (sg, mkRel (fun x : ByteArray × ByteArray => [aS x.1, aS x.2]) (fun x => x.1.size ≤ 1000000 ∧ x.2 = ⟨#[13]⟩) (fun y : ByteArray × ByteArray × Bool => [aS y.1, aS y.2.1, aB y.2.2]) (fun x y => y.1 = lnB x.1))
def kCo (sg : Sig) : Sig × Con := (sg, mkRel (fun x : ByteArray × ByteArray => [aS x.1, aS x.2]) (fun x => x.2.size = 1) (fun b : Bool => [aB b]) (fun x b => ∀ c, x.2 = ⟨#[c]⟩ → b = decide (c ∈ x.1.data.toList)))
def kHP (sg : Sig) : Sig × Con := (sg, mkFun (fun x : ByteArray × ByteArray => ([aS x.1, aS x.2] : List Atom)) (fun _ => True) (fun x => [aB (x.2.data.toList.isPrefixOf x.1.data.toList)]))
theorem h116 : (Tryd.prog.info? (Tryd.laysCA_ren.t 116)).map (fun i => (i.zero, i.size)) = some (some (.agg (Array.replicate 256 (.bool false))), 256) := by kernel_rfl
theorem two_inj {s c x1 x2 : ByteArray} (hx : [aS s, aS c] = [aS x1, aS x2]) : s = x1 ∧ c = x2 := by
  simp only [List.cons.injEq, and_true, Prod.mk.injEq, Value.string.injEq] at hx
  exact hx
theorem h40 : holds Tryd.prog (kCA sg40) := by
  refine ⟨⟨Tryd.f40, Tryd.func40, by kernel_rfl, by kernel_rfl⟩, ?_⟩
  rintro args m w hm hg ⟨⟨s, c⟩, rfl, hs, hc⟩
  simp only at hs hc
  subst hc
  refine (Any.containsEnds Tryd.laysCA (zero_of_info h116).1 (zero_of_info h116).2 s w (by omega)).mono fun e w' ⟨b, he, hb, hw⟩ => ?_
  refine ⟨[aB b], he, ⟨⟨_, rfl⟩, trivial⟩, ?_, leaf_ok rfl (by simp), hw⟩
  rintro ⟨x1, x2⟩ hx _
  obtain ⟨rfl, rfl⟩ := two_inj hx
  exact ⟨b, rfl, hb⟩
theorem h47 : holds Tryd.prog (kIA sg47) := by
  refine ⟨⟨Tryd.f47, Tryd.func47, by kernel_rfl, by kernel_rfl⟩, ?_⟩
  rintro args m w hm hg ⟨⟨s, c⟩, rfl, hs, hc⟩
  simp only at hs hc
  subst hc
  refine (Any.indexEnds { Tryd.laysCA with } (zero_of_info h116).1 (zero_of_info h116).2 s w (by omega)).mono fun e w' ⟨v, he, hv, hw⟩ => ?_
  refine ⟨[aI v], he, ⟨⟨_, rfl⟩, trivial⟩, ?_, leaf_ok rfl (by simp), hw⟩
  rintro ⟨x1, x2⟩ hx _
  obtain ⟨rfl, rfl⟩ := two_inj hx
  exact ⟨v, rfl, hv⟩
theorem h48 : holds Tryd.prog (kCut sg48) := by
  refine ⟨⟨Tryd.f48, Tryd.func48, by kernel_rfl, by kernel_rfl⟩, ?_⟩
  rintro args m w hm hg ⟨⟨s, c⟩, rfl, hs, hc⟩
  simp only at hs hc
  subst hc
  refine (Any.strings_Cut_cr Tryd.laysCut s w (by omega)).mono fun e w' ⟨⟨t, b, he⟩, n, hw⟩ => ?_
  refine ⟨[aS (lnB s), aS t, aB b], he, ⟨⟨_, rfl⟩, ⟨_, rfl⟩, ⟨_, rfl⟩, trivial⟩, ?_, leaf_ok rfl (by simp), ?_⟩
  · rintro ⟨x1, x2⟩ hx _
    obtain ⟨rfl, rfl⟩ := two_inj hx
    exact ⟨(lnB s, t, b), rfl, rfl⟩
  · rw [hw]; exact below_drewN' (RowKit.Below.refl _ _) n
theorem one_is {c : ByteArray} (h : c.size = 1) : ∃ x, c = ⟨#[x]⟩ := by
  obtain ⟨⟨l⟩⟩ := c
  match l, h with
  | [x], _ => exact ⟨x, rfl⟩
theorem h38 : holds Tryd.prog (kCo sg38) := by
  refine ⟨⟨Tryd.f38, Tryd.func38, by kernel_rfl, by kernel_rfl⟩, ?_⟩
  rintro args m w hm hg ⟨⟨s, c⟩, rfl, hc⟩
  simp only at hc
  obtain ⟨x, rfl⟩ := one_is hc
  refine (Any.strings_Contains_one Tryd.laysCo s x w).mono fun e w' ⟨he, hw⟩ => ?_
  refine ⟨[aB (decide (0 ≤ Lib.indexByte s.data.toList x))], he, ⟨⟨_, rfl⟩, trivial⟩, ?_, leaf_ok rfl (fun a ha => .inr (.inl ⟨_, List.mem_singleton.1 ha⟩)), by rw [hw]; exact RowKit.Below.refl _ _⟩
  rintro ⟨x1, x2⟩ hx _
  obtain ⟨rfl, rfl⟩ := two_inj hx
  refine ⟨_, rfl, fun c hc => ?_⟩
  dsimp only at hc ⊢
  simp only [ByteArray.mk.injEq, Array.mk.injEq, List.cons.injEq, and_true] at hc
  subst hc
  have hge := Lib.indexByte_ge s.data.toList x
  refine decide_eq_decide.2 ⟨fun h => ?_, fun h => ?_⟩
  · obtain ⟨i, hi⟩ : ∃ i : Nat, Lib.indexByte s.data.toList x = i := ⟨(Lib.indexByte s.data.toList x).toNat, by omega⟩
    exact List.mem_of_getElem? (Lib.indexByte_some hi).1
  · obtain ⟨i, hi⟩ := List.getElem?_of_mem h
    rcases Int.lt_or_le (Lib.indexByte s.data.toList x) 0 with h0 | h0
    · exact absurd hi (Lib.indexByte_none (by omega) i)
    · exact h0
theorem h52 : holds Tryd.prog (kHP sg52) := by
  refine ⟨⟨Tryd.f52, Tryd.func52, by kernel_rfl, by kernel_rfl⟩, ?_⟩
  rintro args m w hm hg ⟨⟨s, c⟩, rfl, _⟩
  refine (Any.strings_HasPrefix Tryd.laysHP s c w).mono fun e w' ⟨he, hw⟩ => ?_
  refine ⟨[aB (c.data.toList.isPrefixOf s.data.toList)], he, ⟨⟨_, rfl⟩, trivial⟩, ?_, leaf_ok rfl (by simp), by rw [hw]; exact RowKit.Below.refl _ _⟩
  rintro ⟨x1, x2⟩ hx _
  obtain ⟨rfl, rfl⟩ := two_inj hx
  rfl
end Go.Proofs.YtbcbjgomnhajdaaDoorK
