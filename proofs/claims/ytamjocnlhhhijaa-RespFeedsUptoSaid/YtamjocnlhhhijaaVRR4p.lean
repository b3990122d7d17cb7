/- The reader fed piece by piece: what is told of it at each piece. -/
import Derived.Test.YtamjocnlhhhijaaVRRh
set_option linter.unusedSimpArgs false
set_option linter.unusedVariables false
namespace Go.Proofs.YtamjocnlhhhijaaK
open Go Go.Proofs.YtamjocnlhhhijaaV Go.Proofs.YtamjocnlhhhijaaK Go.Proofs.YtamjocnlhhhijaaK Go.Proofs.YtamjocnlhhhijaaS
theorem OI.now {B : Bs} {all : Rw (Rw ByteArray)} {k : Nat} {now args : Atom} {left n many : Int} {sm wr : Bool} {arg : Rw Int} (h : OI B all k now wr left n sm args many arg) : res Go.Proofs.YtamjocnlhhhijaaS.start (B.take k) = ((vv all).map (List.map ls), left.toNat, wr) ∧ 0 ≤ left := by
  rcases h.w with ⟨h1, h2, h3⟩ | ⟨h1, m, h2⟩
  · rw [h3 k (Nat.le_refl _), h1, h2]
    exact ⟨rfl, Int.le_refl _⟩
  · have := h2.done
    have h3 := h2.out.1
    simp only [vv, Rw.nil, List.map_nil, List.append_nil] at h3
    rw [this, h1, ← h3, h2.left, Int.toNat_natCast]
    exact ⟨rfl, by omega⟩
theorem OI.z {B : Bs} {all : Rw (Rw ByteArray)} {k : Nat} {now args : Atom} {left n many : Int} {sm wr : Bool} {arg : Rw Int} (h : OI B all k now wr left n sm args many arg) (hw : wr = true) : left = 0 := by
  rcases h.w with ⟨_, h0, _⟩ | ⟨h1, _⟩
  · exact h0
  · rw [hw] at h1; cases h1
theorem fin4 {B : Bs} {z : Rw Int} {k : Nat} (hz : bS z.l = B.take k) (hB : isB z.l) (hl : z.l.length ≤ 2000) {x all : Rw (Rw ByteArray)} {nn : Int} {e : Bool} (w : refP z x nn e) {now args : Atom} {left n many : Int} {sm wr : Bool} {arg : Rw Int} (h : OI B all k now wr left n sm args many arg) :
    vv all = vv x ∧ e = wr ∧ (wr = false → left = z.l.length - nn) ∧ 0 ≤ left ∧ (x.l.length : Int) ≤ 2000 ∧ (∀ y ∈ x.l, (y.l.length : Int) ≤ 2000) ∧ okL x := by
  obtain ⟨hf, h0⟩ := h.now
  rw [← hz] at hf
  have hv : vv all = vv x := inj_ls (by rw [w.out, hf])
  obtain ⟨l1, l2⟩ := whole_len w hB hl
  have he := w.e
  rw [hf] at he
  refine ⟨hv, ?_, fun hw => ?_, h0, by omega, fun y hy => by have := (l2 y hy).1; omega, w.ok⟩
  · cases e <;> cases wr <;> simp at he ⊢
  · obtain ⟨r, h1, h2, _⟩ := res_inv (bS z.l)
    rw [hf] at h1 h2
    have h3 := h2 hw
    have h4 := congrArg List.length h1
    rw [bS_len, List.length_append] at h4
    have h5 : nn = ((((vv all).map (List.map ls)).flatMap cmdL).length : Int) := by rw [w.n, ← hv, clen_flat]
    simp only at h3 h4
    omega
theorem vv_len (x : Rw (Rw ByteArray)) : (vv x).length = x.l.length := by simp [vv]
theorem cmp4 {all out all2 x : Rw (Rw ByteArray)} (l2 : all2.l = all.l ++ out.l) (hv : vv all2 = vv x) :
    (out.l.length : Int) = x.l.length - all.l.length ∧ ∀ k : Int, 0 ≤ k → k < out.l.length → (out.get k).l = (x.get (all.l.length + k)).l := by
  have h1 : x.l.length = all.l.length + out.l.length := by rw [← vv_len, ← hv, vv_len, l2, List.length_append]
  refine ⟨by omega, fun k h0 hk => ?_⟩
  have h2 : (vv x)[all.l.length + k.toNat]? = (vv out)[k.toNat]? := by
    rw [← hv, vv_app l2, List.getElem?_append_right (by rw [vv_len]; omega), vv_len, Nat.add_sub_cancel_left]
  unfold Rw.get
  unfold vv at h2
  rw [List.getElem?_map, List.getElem?_map] at h2
  have e1 : ((all.l.length : Int) + k).toNat = all.l.length + k.toNat := by omega
  rw [e1]
  rw [List.getElem?_eq_getElem (show all.l.length + k.toNat < x.l.length by omega), List.getElem?_eq_getElem (show k.toNat < out.l.length by omega)] at h2
  simp only [Option.map_some, Option.some.injEq] at h2
  simp only [List.getD_eq_getElem?_getD, List.getElem?_eq_getElem (show all.l.length + k.toNat < x.l.length by omega), List.getElem?_eq_getElem (show k.toNat < out.l.length by omega), Option.getD_some]
  exact h2.symm
theorem catQ_app (l m : List (Rw Int)) : catQ (l ++ m) = catQ l ++ catQ m := by unfold catQ; rw [List.map_append, List.flatten_append]
theorem catQ_pre (l : List (Rw Int)) (k : Nat) : bS (catQ (l.take k)) = (bS (catQ l)).take (catQ (l.take k)).length := by
  have h := List.take_append_drop k l
  have e : catQ l = catQ (l.take k) ++ catQ (l.drop k) := by rw [← catQ_app, h]
  have e2 : bS (catQ l) = bS (catQ (l.take k)) ++ bS (catQ (l.drop k)) := by rw [e]; unfold bS; rw [List.map_append]
  rw [e2, List.take_left' (by rw [bS_len])]
theorem okQ_sub {q : Rw (Rw Int)} (h : okQ q) (j : Int) : okQ (q.sub 1 0 j) := ⟨ok_sub h.1 _ _, fun x hx => h.2 x (List.mem_of_mem_take (List.mem_of_mem_drop hx))⟩
theorem catQ_at {q : Rw (Rw Int)} {i : Int} (h0 : 0 ≤ i) (h1 : i < q.l.length) {p : Rw Int} (hp : p = q.get i) : ∀ j : Int, 0 ≤ j → j < p.l.length → (bS (catQ q.l))[(catQ (q.l.take i.toNat)).length + j.toNat]? = some (UInt8.ofNat (p.get j).toNat) := by
  intro j j0 j1
  have h2 := bS_get j0 j1
  have e : bS (catQ (q.l.take (i + 1).toNat)) = bS (catQ (q.l.take i.toNat)) ++ bS p.l := by rw [catQ_take h0 h1, hp]; unfold bS; rw [List.map_append]
  have e3 : (catQ (q.l.take (i + 1).toNat)).length = (catQ (q.l.take i.toNat)).length + p.l.length := by rw [catQ_take h0 h1, hp, List.length_append]
  have h3 : (bS (catQ (q.l.take (i + 1).toNat)))[(catQ (q.l.take i.toNat)).length + j.toNat]? = some (UInt8.ofNat (p.get j).toNat) := by
    rw [e, List.getElem?_append_right (by rw [bS_len]; omega), bS_len, Nat.add_sub_cancel_left]
    exact h2
  rw [catQ_pre, List.getElem?_take] at h3
  split at h3
  · exact h3
  · cases h3
end Go.Proofs.YtamjocnlhhhijaaK
