/- strconv.Atoi, as a contract: what it tells of a text; the two variables that it reads are handed on beside it. -/
import Derived.Test.YtbcbjgomnhajdaaDoorVRDsh
import Derived.Test.YtbcbjgomnhajdaaDoorVR2p
import Derived.Test.YtbcbjgomnhajdaaDoorVRDs
set_option linter.unusedSimpArgs false
set_option linter.unusedVariables false
namespace Go.Proofs.YtbcbjgomnhajdaaDoorK
open Go Go.Proofs.YtbcbjgomnhajdaaDoorV Go.Proofs Go.Proofs.YtbcbjgomnhajdaaDoorK
def eF (v : Value) : List Atom := [(v, .leaf)]
def unF (r : List Atom) : Value := (r.getD 0 atom0).1
theorem unF_atom (v : Value) : unF (eF v) = v := rfl
/-- The variable's cell, as a row of one. -/
def ghat (k : Nat) (r : Rw Value) : Prop := ∃ ev : Value, r = ⟨some ⟨k, 0, none⟩, 1, 1, [ev]⟩ ∧ (ev = .nilIface ∨ ∃ te pe, ev = .iface te pe)
theorem ghat_cell {k : Nat} {r : Rw Value} {m : Addr → Option Value} (h : ghat k r) (hg : Go.Proofs.YtbcbjgomnhajdaaDoorV.Good m (r.atom eF)) : ∃ ev, m ⟨k, 0, none⟩ = some ev ∧ (ev = .nilIface ∨ ∃ te pe, ev = .iface te pe) := by
  obtain ⟨ev, rfl, he⟩ := h
  obtain ⟨hr, _⟩ := hg
  simp only [Rw.atom, List.length_cons, List.length_nil, List.map_cons, List.map_nil] at hr
  generalize hx : Value.slice (some ⟨k, 0, none⟩) (0 + 1) 1 = x at hr
  generalize hy : D.rows 1 [eF ev] = y at hr
  cases hr with
  | leaf => cases hy
  | nil => cases hx
  | rows a c sz els hz hc h1 hd hcap =>
    injection hx with e1 e2 e3
    injection e1 with e1
    injection hy with e4 e5
    subst e1; subst e4; subst e5
    exact ⟨ev, hc 0 0 (eF ev) (ev, .leaf) rfl rfl, he⟩
structure Gh where
  a : Rw Value
  b : Rw Value
def pG (q : Gh) : Prop := ghat 1 q.a ∧ ghat 2 q.b
theorem unF_at (r : Rw Value) : Rw.un unF (r.atom eF) = r := Rw.un_atom unF_atom r
def atoiR (s : ByteArray) (y : Int × Atom) : Prop := in64 y.1 ∧ (y.2 = (.nilIface, .leaf) ∧ Lib.atoiAll (ls s) = .ok y.1 ∨ (∃ t p, y.2 = (.iface t p, .leaf)) ∧ ∀ v, Lib.atoiAll (ls s) ≠ .ok v)
def kAtoi (sg : Sig) : Sig × Con := (sg, mkRel (fun x : ByteArray × Gh => [aS x.1, Rw.atom eF x.2.a, Rw.atom eF x.2.b]) (fun x => x.1.size ≤ 281474976710656 ∧ pG x.2) (fun y : Int × Atom => [aI y.1, y.2]) (fun x y => atoiR x.1 y))
theorem atoi_in {s : ByteArray} {v : Int} (h : Lib.atoiAll (ls s) = .ok v) : in64 v := by
  unfold Lib.atoiAll at h
  split at h
  · cases h
  · simp only at h
    split at h
    · cases h
    · cases h
    · rename_i u hu
      have := Lib.parseMag_lt hu
      unfold in64
      split at h
      · cases h
      · split at h
        · cases h
        · injection h with h
          subst h
          split <;> omega
theorem outs_ok {m : Addr → Option Value} {w w' : World} {n : Int} {e : Value} (he : e.oneCell' = true) : OutsOk m w w' sg67.own [aI n, (e, .leaf)] := by
  have hg : ∀ (M : Addr → Option Value), ∀ a ∈ [aI n, (e, D.leaf)], Go.Proofs.YtbcbjgomnhajdaaDoorV.Good M a := by
    intro M a ha
    simp only [List.mem_cons, List.not_mem_nil, or_false] at ha
    rcases ha with rfl | rfl
    · exact ⟨.leaf _, rfl⟩
    · exact ⟨.leaf _, he⟩
  exact ⟨fun i a ha => ⟨(hg _ a (List.mem_of_getElem? ha)).elt, fun _ => hg _ a (List.mem_of_getElem? ha)⟩, fun p hp => absurd hp (by simp [sg67]), List.Pairwise.nil⟩
theorem encA_inj : ∀ x y : ByteArray × Gh, [aS x.1, Rw.atom eF x.2.a, Rw.atom eF x.2.b] = [aS y.1, Rw.atom eF y.2.a, Rw.atom eF y.2.b] → x = y := by
  rintro ⟨s, a, b⟩ ⟨s', a', b'⟩ h
  simp only [List.cons.injEq, and_true, Prod.mk.injEq, Value.string.injEq] at h
  obtain ⟨h1, h2, h3⟩ := h
  have e2 := unF_at a
  have e3 := unF_at b
  rw [h2, unF_at a'] at e2
  rw [h3, unF_at b'] at e3
  subst h1; subst e2; subst e3; rfl
theorem holds_pre {P : Program} {sg : Sig} {α : Type} {enc : α → List Atom} {pre pre' : α → Prop} {f : α → List Atom} (h : holds P (sg, mkFun enc pre f)) (hp : ∀ x, pre' x → pre x) : holds P (sg, mkFun enc pre' f) := by
  refine ⟨h.1, ?_⟩
  rintro args m w hm hg ⟨x, hx, hq⟩
  refine (h.2 args m w hm hg ⟨x, hx, hp x hq⟩).mono fun e w' he => ?_
  obtain ⟨outs, h1, h2, h3, h4, h5⟩ := he
  exact ⟨outs, h1, h2, fun y hy hy2 => h3 y hy (hp y hy2), h4, h5⟩
theorem h67 : holds Tryd.prog (kAtoi sg67) := by
  refine ⟨⟨Tryd.f67, Tryd.func67, by kernel_rfl, by kernel_rfl⟩, ?_⟩
  rintro args m w hm hg ⟨⟨s, a, b⟩, rfl, hp⟩
  obtain ⟨hs, ha, hb⟩ := hp
  simp only at hs ha hb
  obtain ⟨e0, c0, i0⟩ := ghat_cell ha (hg _ (by simp))
  obtain ⟨e1, c1, i1⟩ := ghat_cell hb (hg _ (by simp))
  have post : ∀ n e, atoiR s (n, (e, .leaf)) → (kAtoi sg67).2.post [aS s, Rw.atom eF a, Rw.atom eF b] [aI n, (e, .leaf)] := by
    intro n e h x hx _
    obtain rfl := encA_inj (s, ⟨a, b⟩) x hx
    exact ⟨(n, (e, .leaf)), rfl, h⟩
  show Calls Tryd.prog 67 #[.string s] w _
  rcases hA : Lib.atoiAll (ls s) with v | _ | _
  · refine (Any.strconv_Atoi_ok Tryd.laysAtoi s (by omega) v hA w).mono fun e w' ⟨he, hw⟩ => ?_
    refine ⟨[aI v, (.nilIface, .leaf)], he, ⟨⟨_, rfl⟩, .inl rfl, trivial⟩, post _ _ ⟨atoi_in hA, .inl ⟨rfl, hA⟩⟩, outs_ok rfl, ?_⟩
    rcases hw with rfl | ⟨t, rfl⟩
    · exact RowKit.Below.refl _ _
    · exact Lib.bytesWorld_below w _ t
  · refine (Any.strconv_Atoi_syntax Tryd.laysAtoi s hs hA e0 w (hm _ _ c0) i0).mono fun e w' ⟨N, he, _, _, hw⟩ => ?_
    exact ⟨[aI 0, (.iface _ _, .leaf)], he, ⟨⟨_, rfl⟩, .inr ⟨_, _, rfl⟩, trivial⟩, post _ _ ⟨by unfold in64; omega, .inr ⟨⟨_, _, rfl⟩, fun v h => by rw [hA] at h; cases h⟩⟩, outs_ok rfl, hw⟩
  · refine (Any.strconv_Atoi_range Tryd.laysAtoi s hs hA e1 w (hm _ _ c1) i1).mono fun e w' ⟨N, he, _, _, hw⟩ => ?_
    refine ⟨[aI (Lib.atoiSat s.data.toList), (.iface _ _, .leaf)], he, ⟨⟨_, rfl⟩, .inr ⟨_, _, rfl⟩, trivial⟩, post _ _ ⟨?_, .inr ⟨⟨_, _, rfl⟩, fun v h => by rw [hA] at h; cases h⟩⟩, outs_ok rfl, hw⟩
    unfold Lib.atoiSat in64; split <;> omega
end Go.Proofs.YtbcbjgomnhajdaaDoorK
