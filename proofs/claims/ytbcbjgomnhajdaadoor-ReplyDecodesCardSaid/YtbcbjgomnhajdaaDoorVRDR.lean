/- What the rows of Reply's door share: the two variables, laid; what inputs read as. -/
import Derived.Test.YtbcbjgomnhajdaaDoorVRDA2
import Derived.Test.YtbcbjgomnhajdaaDoorVRDp1m
import Derived.Test.YtbcbjgomnhajdaaDoorRows
import Derived.Test.YtbcbjgomnhajdaaDoorCards
import Derived.Test.YtbcbjgomnhajdaaDoorTie
import Derived.WalkKit
import Derived.ProofKit
import Derived.OpenShut
import Derived.ShutString
import Derived.ChangeOld
import Derived.Below
import Derived.SizedLaws
import Derived.LaidMore
import Derived.LaidHandle
import Derived.MakeChecks
import Derived.Stop.LaidErr
import Derived.SevenTiedAt
import Derived.Stop.Joined
import Derived.JoinedCond
import Derived.Deep.DeepWitnessRowRef
set_option linter.unusedVariables false
set_option linter.unusedSimpArgs false
namespace Go.Proofs.YtbcbjgomnhajdaaDoorV
open Go Go.RowKit Go.ChangeShapes Go.WideShapes
variable {H : Type} (B : Bulk H) {enc : TypeId × Value → H} {P : Program} {w : World} {base : Nat} {spare : Nat → Bool} {held : Bool}
theorem run_ofGB {H : Type} {enc : TypeId × Value → H} {C : Checked} {f : FuncId} {fn : Func} {s : ChangeSpec} {sg : Sig} {rt : TypeId} {kss : List (List LK)} {d : Nat} {α : Type} {en : α → List Atom} {pre : α → Prop}
    (hk : holds C.prog (sg, mkFun en pre (fun _ => [aB true]))) (hf : sg.f = f) (ht : sg.tup = false) (hrs : sg.rsh = [none]) (hsh : fn.params.toList.map (shK C.prog) = sg.ash) (hks : allSome (fn.params.toList.map (leafK C.prog d)) = some kss)
    (B : Bulk H) {M : Nat} {W : World} {gv : List Atom} (hgv : ∀ a ∈ gv, Good W.cell? a) (hin : ∀ r n, FitsAll kss.flatten r → BkAll r n → n ≤ M → ∃ x, en x = r ++ gv ∧ pre x ∧ mkVals sg.ash ((en x).map (·.1)) = mkVals sg.ash (r.map (·.1))) (hl : laidOutB C.prog = true) (hr : (fn.params.toList.all fun t => C.prog.readableRec t && decide (t < C.prog.types.size)) = true)
    (hres : fn.resultTypes = #[rt]) (hrt : C.prog.underlying rt = some .bool) (hvars : s.vars = []) (hspec : ∀ ds : List (DataW H), ds.length = fn.params.toList.length → s.fn H ds = { results := [.lit (.bool true)], args := ds })
    (b0 : Nat) (args : Array Value) (ds gs : List (DataW H)) (before : List MemPlace)
    (hval : ∀ (j : Nat) t v, fn.params[j]? = some t → args[j]? = some v → Value.okWide C.prog W .any b0 t v) (hW : DataW.Whole enc C.prog fn.params.toList s.vars false W args.toList ds gs before) (hbd : B.βA (ds ++ gs) ≤ M) :
    Calls C.prog f args W fun e W' => ∃ v, e = .returned v ∧ s.post enc C.prog fn false true false false W args v W' := by
  have hW' := hW
  obtain ⟨p, q, hA, hV, rfl, hfz, hnd⟩ := hW
  rw [hvars] at hV
  obtain ⟨rfl, rfl⟩ := trodVars_none hV
  obtain ⟨r, n, h1, h2, h3, h6, h7⟩ := open_allB B hks hA (fun j t v h4 h5 => hval j t v (by simpa using h4) (by simpa using h5))
  rw [List.append_nil] at hbd
  obtain ⟨x, hx, hp, hmk⟩ := hin r n h2 h6 (by omega)
  have hc := hk.2 (en x) W.cell? W (fun _ _ h => h) (fun a ha => by rw [hx] at ha; rcases List.mem_append.1 ha with ha | ha; exact h3 a ha; exact hgv a ha) ⟨x, rfl, hp⟩
  have ha : (mkVals sg.ash ((en x).map (·.1))).toArray = args := by rw [hmk, ← hsh, h1]
  simp only at hc
  rw [ha, hf] at hc
  refine hc.mono fun e W' ⟨outs, he, hko, hpo, _, hb⟩ => ?_
  have ho := hpo x rfl hp
  subst ho
  refine ⟨_, he, ds, [], _, [], p, [], hW', ?_, ?_, ?_, hb.frame _, fun h => by cases h⟩
  · rw [hspec _ (by simpa using trodAll_len hA)]
    rw [hres]
    rw [hrs, ht]
    exact trodAll_mk1 (shut_bool hrt _)
  · rw [hspec _ (by simpa using trodAll_len hA)]
    simp only [List.append_nil]
    exact trodAll_below hl hb hr hA (hA.lt)
  · rw [hspec _ (by simpa using trodAll_len hA), hvars]
    rfl
end Go.Proofs.YtbcbjgomnhajdaaDoorV
namespace Go.Proofs.YtbcbjgomnhajdaaDoorK
open Go Go.Proofs.YtbcbjgomnhajdaaDoorV Go.Proofs Go.Proofs.YtbcbjgomnhajdaaDoorK Go.Proofs.YtbcbjgomnhajdaaDoorK
theorem bytes_in {a : Atom} (h : Fits (.slc [.int .u8]) a) : ∃ r : Rw Int, a = Rw.atom eB r ∧ r.ok 1 ∧ isB r.l := by
  obtain ⟨s, rfl, h2⟩ := fits_slc h
  obtain ⟨r, h3, h4, h5⟩ := rw_of (e := eB) (Q := fun x => 0 ≤ x ∧ x < 256) (fun row hr => by
    obtain ⟨_, _, rfl, f0, g0⟩ := fits_cons hr
    obtain ⟨n, rfl, hn⟩ := fits_int f0
    obtain rfl := fits_nil g0
    have e1 : IntKind.u8.min = 0 := rfl
    have e2 : IntKind.u8.max = 255 := rfl
    exact ⟨n, rfl, by omega⟩) h2
  exact ⟨r, h3, .inr h4, h5⟩
end Go.Proofs.YtbcbjgomnhajdaaDoorK
namespace Go.Proofs.YtbcbjgomnhajdaaDoor
open Go.ChangeShapes Go.WideShapes Go.ChangeAt Go.RowKit Go.Proofs.YtbcbjgomnhajdaaDoorV Go.Proofs.YtbcbjgomnhajdaaDoorK Go.Proofs.YtbcbjgomnhajdaaDoorK Go.Proofs.YtbcbjgomnhajdaaDoorK
theorem u16_of {n : Int} (h : IntKind.u16.min ≤ n ∧ n ≤ IntKind.u16.max) : 0 ≤ n ∧ n < 65536 := by
  have e1 : IntKind.u16.min = 0 := rfl
  have e2 : IntKind.u16.max = 65535 := rfl
  omega
theorem u8_of {n : Int} (h : IntKind.u8.min ≤ n ∧ n ≤ IntKind.u8.max) : 0 ≤ n ∧ n < 256 := by
  have e1 : IntKind.u8.min = 0 := rfl
  have e2 : IntKind.u8.max = 255 := rfl
  omega
theorem u32_of {n : Int} (h : IntKind.u32.min ≤ n ∧ n ≤ IntKind.u32.max) : 0 ≤ n ∧ n < 4294967296 := by
  have e1 : IntKind.u32.min = 0 := rfl
  have e2 : IntKind.u32.max = 4294967295 := rfl
  omega
theorem own : ownKnob Tryd.prog.godebug = none := by kernel_rfl
theorem iface_laid {P : Program} {n nm : String} {d : DataW Unit} {r : List (String × DataW Unit)} {W : World} {g : Nat} {ti : TypeId} {ms : Array (String × TypeId)}
    (h : laidMet P ((n, .iface nm d) :: r) W) (hg : P.globalNamed n = some g) (ht : (P.globals[g]?).map (·.type) = some ti) (hi : P.underlying ti = some (.interface ms)) : ∃ u v, W.cell? ⟨g, 0, none⟩ = some (.iface u v) := by
  obtain ⟨ps, ⟨g0, t0, cs0, f0, p0, q0, hg0, ht0, hv0, hd0, _, e0⟩, _, hrows⟩ := h
  obtain rfl := Option.some.inj (hg.symm.trans hg0)
  obtain rfl := Option.some.inj (ht.symm.trans ht0)
  obtain ⟨l0⟩ := cs0
  obtain ⟨f1, u, v, e, _⟩ := iface_of_trod hi hd0
  simp only at e
  subst e
  exact ⟨u, v, by simpa using World.var?_cell hg0 hv0 0⟩
theorem two_laid {W : World} (h : laidMetH Tryd.prog Rows.replyOneRow.laid W) : ∃ q : Gh, pG q ∧ ∀ a ∈ [Rw.atom eF q.a, Rw.atom eF q.b], Go.Proofs.YtbcbjgomnhajdaaDoorV.Good W.cell? a := by
  rw [MakeChecks.laidMetH_plain _ _ _ (by kernel_rfl)] at h
  have h' : laidMet Tryd.prog [("math/bits.deBruijn32tab", Rows.laid_math_bits_deBruijn32tab), ("math/bits.deBruijn64tab", Rows.laid_math_bits_deBruijn64tab), ("internal/strconv.uint64pow10", Rows.laid_internal_strconv_uint64pow10), ("strconv.ErrRange", Rows.laid_strconv_ErrRange), ("strconv.ErrSyntax", Rows.laid_strconv_ErrSyntax)] W := h
  obtain ⟨u1, v1, c1⟩ := iface_laid h'.tail.tail.tail (g := 2) (by kernel_rfl) (by kernel_rfl) Tryd.underlying98
  obtain ⟨u0, v0, c0⟩ := iface_laid h'.tail.tail.tail.tail (g := 1) (by kernel_rfl) (by kernel_rfl) Tryd.underlying98
  have good : ∀ (k : Nat) (u : TypeId) (v : Value), W.cell? ⟨k, 0, none⟩ = some (.iface u v) → Go.Proofs.YtbcbjgomnhajdaaDoorV.Good W.cell? (Rw.atom eF ⟨some ⟨k, 0, none⟩, 1, 1, [.iface u v]⟩) := by
    intro k u v h
    refine ⟨Rd.rows ⟨k, 0, none⟩ 1 1 [eF (.iface u v)] ?_ ?_ ?_ ?_ (Nat.le_refl _), rfl⟩
    · intro i row hi
      cases i with
      | zero => simp at hi; subst hi; rfl
      | succ i => simp at hi
    · intro i j row x hi hj
      cases i with
      | succ i => simp at hi
      | zero =>
        simp at hi; subst hi
        cases j with
        | succ j => simp [eF] at hj
        | zero => simp [eF] at hj; subst hj; simpa [Addr.add] using h
    · intro i j row x hi hj
      cases i with
      | succ i => simp at hi
      | zero =>
        simp at hi; subst hi
        cases j with
        | succ j => simp [eF] at hj
        | zero => simp [eF] at hj; subst hj; rfl
    · intro i j row x d hi hj
      cases i with
      | succ i => simp at hi
      | zero =>
        simp at hi; subst hi
        cases j with
        | succ j => simp [eF] at hj
        | zero => simp [eF] at hj; obtain ⟨rfl, rfl⟩ := hj; exact .leaf _
  refine ⟨⟨⟨some ⟨1, 0, none⟩, 1, 1, [.iface u0 v0]⟩, ⟨some ⟨2, 0, none⟩, 1, 1, [.iface u1 v1]⟩⟩, ⟨⟨_, rfl, .inr ⟨_, _, rfl⟩⟩, ⟨_, rfl, .inr ⟨_, _, rfl⟩⟩⟩, ?_⟩
  intro a ha
  simp only [List.mem_cons, List.not_mem_nil, or_false] at ha
  rcases ha with rfl | rfl
  · exact good 1 u0 v0 c0
  · exact good 2 u1 v1 c1
/-- The door's own heap meets the condition. -/
theorem door_met (os : Os) (args : Array Value) : laidMetH Tryd.prog Rows.replyOneRow.laid ((World.doorLaid Tryd.prog 4000 os).forCall (fun _ _ => 0) ⟨#[], args, []⟩).memory :=
  laidMetH_of_parts3 (fuel := 8) (laidMet_of_run' 8 (by kernel_rfl) (by kernel_rfl)) (by kernel_rfl) (by kernel_rfl)
end Go.Proofs.YtbcbjgomnhajdaaDoor
