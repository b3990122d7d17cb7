/- Proved: what was answered is read as it was, as far as its kind has it, all of it, one behind the other; cut short anywhere within one it is told to be: the law returns true for every input that holds at most 1048576 values and letters. Condition: that bound alone. -/
import Derived.Test.YtbcbjgomnhajdaaDoorVRDR
import Derived.Test.YtbcbjgomnhajdaaDoorVRDL6
set_option linter.unusedVariables false
set_option linter.unusedSimpArgs false
namespace Go.Proofs.YtbcbjgomnhajdaaDoor
open Go.ChangeShapes Go.WideShapes Go.ChangeAt Go.RowKit Go.Proofs.YtbcbjgomnhajdaaDoorV Go.Proofs.YtbcbjgomnhajdaaDoorK Go.Proofs.YtbcbjgomnhajdaaDoorK Go.Proofs.YtbcbjgomnhajdaaDoorK
namespace replyBack
theorem inp {q : Gh} (hq : pG q) (r : List Atom) (n : Nat) (h : FitsAll [.slc [.int .i64, .str, .int .i64, .slc [.str]], .int .u16] r) (hb : BkAll r n) (hn : n ≤ 1048576) : ∃ x, (fun x : Rw Rep × Int × Gh => ([Rw.atom eP x.1, aK .u16 x.2.1, Rw.atom eF x.2.2.a, Rw.atom eF x.2.2.b] : List Atom)) x = r ++ [Rw.atom eF q.a, Rw.atom eF q.b] ∧ (fun x : Rw Rep × Int × Gh => okR 2000000 x.1 ∧ (0 ≤ x.2.1 ∧ x.2.1 < 65536) ∧ pG x.2.2) x ∧ mkVals sg6.ash (((fun x : Rw Rep × Int × Gh => ([Rw.atom eP x.1, aK .u16 x.2.1, Rw.atom eF x.2.2.a, Rw.atom eF x.2.2.b] : List Atom)) x).map (·.1)) = mkVals sg6.ash (r.map (·.1)) := by
  obtain ⟨_, _, rfl, f0, g0⟩ := fits_cons h
  obtain ⟨x0, rfl, k0, b0⟩ := reps_in f0
  obtain ⟨_, _, rfl, f1, g1⟩ := fits_cons g0
  obtain ⟨x1, rfl, k1⟩ := fits_int f1
  obtain rfl := fits_nil g1
  obtain ⟨n0, m0, rfl, h0, hb⟩ := bkAll_cons hb
  have t0 := bk_P h0
  obtain ⟨n1, m1, rfl, h1, hb⟩ := bkAll_cons hb
  exact ⟨(x0, x1, q), rfl, ⟨⟨k0, b0, (by show lenL (x0.l.map Rep.v) ≤ 2000000; omega)⟩, u16_of k1, hq⟩, rfl⟩
/-- The rows' count of what is held. -/
def held (H : Type) : Bulk H where
  β := Rows.uptoBulk
  βA := Rows.uptoBulkAll
  nil := by simp [Rows.uptoBulkAll]
  cons d r := by simp [Rows.uptoBulkAll]
  lit l := by cases l <;> simp [Rows.uptoBulk]
  str b := by simp [Rows.uptoBulk]
  nl := by simp [Rows.uptoBulk]
  slc e s := by simp only [Rows.uptoBulk]; omega
  agg p := by simp only [Rows.uptoBulk]; omega
theorem reads (os : Os) {H : Type} (enc : TypeId × Value → H) : ∃ places, DataW.whole enc Tryd.prog ((World.doorLaid Tryd.prog 4000 os).forCall (fun _ _ => 0) ⟨#[], #[.slice none 0 0, .int .u16 0], []⟩).memory Tryd.f6.params.toList Rows.replyBackSpec.vars false (#[.slice none 0 0, .int .u16 0] : Array Value).toList 8 = some ([.nil, .lit (.int .u16 0)], [], places) :=
  ⟨[], by kernel_rfl⟩
set_option maxRecDepth 100000 in
theorem lifted (os : Os) (started : os.Started) (H : Type) (enc : TypeId × Value → H) (F : Stop.Interp) :
    ReturnsInHanded {} Tryd.checked os 6 .any ((Rows.OpenSpec.upto Rows.replyBackSpec).preRow enc Tryd.prog Tryd.f6 Rows.replyBackUptoRow.domain false Rows.replyBackUptoRow.laid) (((Rows.OpenSpec.upto Rows.replyBackSpec).at F).post enc Tryd.prog Tryd.f6 false true false false) := by
  obtain ⟨places, hx⟩ := reads os enc
  refine returnsInHanded_of_row (C := Tryd.checked) (s := (Rows.OpenSpec.upto Rows.replyBackSpec)) own started (by kernel_rfl) Tryd.func6
    (witness_row_atRef (enc := enc) (C := Tryd.checked) false (World.doorLaid Tryd.prog 4000 os) #[.slice none 0 0, .int .u16 0] rfl (by kernel_rfl) (by kernel_rfl) (by kernel_rfl)
      (OpenSpec.preRow_of_cond 8 hx (by kernel_rfl) (fun k hk => by cases hk; kernel_rfl) (by kernel_rfl) (door_met os _))) ?_
  intro W base args ds gs before hval hW _ hk _ hL _ _
  obtain ⟨q, hq, hg⟩ := two_laid hL
  have hb : Rows.uptoBulkAll (ds ++ gs) ≤ 1048576 := of_decide_eq_true (hk _ rfl)
  exact run_ofGB (C := Tryd.checked) (s := Rows.replyBackSpec) (d := 8) (kss := [[.slc [.int .i64, .str, .int .i64, .slc [.str]]], [.int .u16]]) h6 rfl rfl rfl (by kernel_rfl) (by kernel_rfl) (held H) (M := 1048576) hg (fun r n hr hb hn => inp hq r n hr hb hn) (by kernel_rfl) (by kernel_rfl) (rt := 4) (by kernel_rfl) (by kernel_rfl) rfl (fun ds hd => by
    match ds, hd with
    | [d0, d1], _ => rfl) base args ds gs before hval hW hb
theorem over : Rows.ReplyBackUptoSaid :=
  OpenClaim.holds_of_cond 6 Tryd.f6 rfl rfl rfl rfl rfl rfl rfl ⟨rfl, rfl, rfl, rfl, rfl⟩ rfl rfl rfl rfl rfl (by kernel_rfl) Tryd.func6 (by kernel_rfl)
    (of_decide_eq_true (by kernel_rfl)) (by unfold Func.isWrapper; first | (rw [if_pos (by decide +kernel)]; kernel_rfl) | (rw [if_neg (by decide +kernel)]; exact ⟨rfl, rfl⟩))
    (fun os started H enc _ F => by rw [OpenClaim.pre_eq_preRow]; exact lifted os started H enc F)
end replyBack
/-- The card. -/
theorem replyBackUptoCard_holds : Rows.ReplyBackUptoCardSaid :=
  Claim7.holds_tied_plain_at .later [] [.data, .data, .data, .sentinel, .sentinel] true (true, "01086c836f446222f180b5fe3708aa61bbf7275e64ae696099772e49cd26963b") true
    replyBack.over (fun _ h => by cases h) (by kernel_rfl) (fun _ h => by cases h) replyBackUpto_row_tie rfl ⟨rfl, rfl⟩ (by kernel_rfl) rfl
    (fun f fn hf hfn => by
      obtain rfl : f = 6 := Option.some.inj ((show Tryd.prog.funcNamed Rows.replyBackRow.func = some 6 by kernel_rfl).symm.trans hf) |>.symm
      obtain rfl : fn = Tryd.f6 := (Option.some.inj (Tryd.func6.symm.trans hfn)).symm
      exact ⟨by kernel_rfl, fun j t ht => by
        rw [Tryd.params6] at ht
        have hm : t ∈ [34, 46] := by simpa using Array.mem_of_getElem? ht
        have hall : ([34, 46].all fun u => !Tryd.prog.wantsStandIn u) = true := by kernel_rfl
        exact (show Tryd.prog.wantsStandIn t = false by simpa using List.all_eq_true.1 hall t hm)⟩)
    (by kernel_rfl)
#print axioms replyBackUptoCard_holds
end Go.Proofs.YtbcbjgomnhajdaaDoor
