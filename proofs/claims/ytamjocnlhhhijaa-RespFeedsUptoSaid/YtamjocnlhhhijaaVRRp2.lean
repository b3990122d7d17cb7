/- Rows of rows of texts. -/
import Derived.Test.YtamjocnlhhhijaaVRRq1
import Derived.Test.YtamjocnlhhhijaaVRSpm
set_option linter.unusedSimpArgs false
set_option linter.unusedVariables false
namespace Go.Proofs.YtamjocnlhhhijaaK
open Go Go.Proofs.YtamjocnlhhhijaaV Go.Proofs.YtamjocnlhhhijaaK Go.Proofs.YtamjocnlhhhijaaK
instance : Inhabited (Rw ByteArray) := ⟨Rw.nil⟩
def eL (x : Rw ByteArray) : List Atom := [Rw.atom eS x]
def unL (r : List Atom) : Rw ByteArray := Rw.un unS (r.getD 0 atom0)
theorem unL_e (x : Rw ByteArray) : unL (eL x) = x := by
  unfold unL eL
  simp only [List.getD_cons_zero]
  exact Rw.un_atom (fun _ => rfl) x
theorem unL_atom (r : Rw (Rw ByteArray)) : Rw.un unL (r.atom eL) = r := Rw.un_atom unL_e r
theorem cell_L (r : Rw (Rw ByteArray)) {i : Int} (h0 : 0 ≤ i) (h : i < r.l.length) : cellD (r.atom eL) i 0 = Rw.atom eS (r.get i) := by
  have hi : i.toNat < r.l.length := by omega
  unfold cellD Rw.atom Rw.get
  simp [hi, eL, D.els, Rw.atom, List.getD_eq_getElem?_getD]
theorem kind_Rl {r : Rw (Rw ByteArray)} {i : Int} (h0 : 0 ≤ i) (h : i < r.l.length) : ∃ a n c, (cellD (r.atom eL) i 0).1 = .slice a n c := by rw [cell_L r h0 h]; exact ⟨_, _, _, rfl⟩
/-- What a row of rows holds. -/
def vv (r : Rw (Rw ByteArray)) : List (List ByteArray) := r.l.map (·.l)
def okL (r : Rw (Rw ByteArray)) : Prop := r.ok 1 ∧ ∀ x ∈ r.l, x.ok 1
theorem get_memL {α : Type} [Inhabited α] {r : Rw α} {i : Int} (h0 : 0 ≤ i) (h : i < r.l.length) : r.get i ∈ r.l := by
  unfold Rw.get
  rw [List.getD_eq_getElem?_getD, List.getElem?_eq_getElem (by omega)]
  exact List.getElem_mem _
theorem take_g {α : Type} [Inhabited α] {r : Rw α} {i : Int} (h0 : 0 ≤ i) (h1 : i < r.l.length) : r.l.take (i + 1).toNat = r.l.take i.toNat ++ [r.get i] := by
  unfold Rw.get
  rw [show (i + 1).toNat = i.toNat + 1 by omega, List.take_add_one, List.getD_eq_getElem?_getD, List.getElem?_eq_getElem (by omega)]; rfl
theorem get_of {α β : Type} [Inhabited α] {f : α → β} {a b : Rw α} (h : a.l.map f = b.l.map f) {i : Int} (h0 : 0 ≤ i) (h1 : i < a.l.length) (h2 : i < b.l.length) : f (a.get i) = f (b.get i) := by
  have e := congrArg (fun L => L[i.toNat]?) h
  simp only [List.getElem?_map] at e
  rw [List.getElem?_eq_getElem (show i.toNat < a.l.length by omega), List.getElem?_eq_getElem (show i.toNat < b.l.length by omega)] at e
  simp only [Option.map_some, Option.some.injEq] at e
  unfold Rw.get
  rw [List.getD_eq_getElem?_getD, List.getD_eq_getElem?_getD, List.getElem?_eq_getElem (show i.toNat < a.l.length by omega), List.getElem?_eq_getElem (show i.toNat < b.l.length by omega)]
  exact e
theorem take_eqL {a b : List ByteArray} {i : Int} (hE : a.take i.toNat = b.take i.toNat) (hl : (a.length : Int) = b.length) (hi : (a.length : Int) ≤ i) : a = b := by
  rw [List.take_of_length_le (by omega), List.take_of_length_le (by omega)] at hE; exact hE
def mayB (l : List ByteArray) : Bool := decide (1 ≤ l.length) && decide (l.length ≤ 50) && l.all (fun s => decide (s.size ≤ 1000))
theorem mayB_big {r : Rw ByteArray} {i : Int} (h0 : 0 ≤ i) (h : i < r.l.length) (hb : ((r.get i).size : Int) > 1000) : mayB r.l = false := by
  unfold mayB
  have : r.l.all (fun s => decide (s.size ≤ 1000)) = false := by
    rw [Bool.eq_false_iff]
    intro ha
    have := of_decide_eq_true (List.all_eq_true.1 ha _ (get_memL h0 h))
    omega
  rw [this, Bool.and_false]
theorem all_next {r : Rw ByteArray} {i : Int} (h0 : 0 ≤ i) (h : i < r.l.length) (ha : (r.l.take i.toNat).all (fun s => decide (s.size ≤ 1000)) = true) (hb : ¬((r.get i).size : Int) > 1000) : (r.l.take (i + 1).toNat).all (fun s => decide (s.size ≤ 1000)) = true := by
  rw [take_g h0 h, List.all_append, ha]
  simp; omega
theorem all_end {r : Rw ByteArray} {i : Int} (h : (r.l.length : Int) ≤ i) (ha : (r.l.take i.toNat).all (fun s => decide (s.size ≤ 1000)) = true) : r.l.all (fun s => decide (s.size ≤ 1000)) = true := by
  rw [List.take_of_length_le (by omega)] at ha; exact ha
/-- Arguments' bytes. -/
def cmdB (l : List ByteArray) : ByteArray := (⟨#[42]⟩ : ByteArray) ++ prt (l.length : Int) ++ e2 ++ catB (l.map bulkB)
theorem den_cS {env : List Atom} {s i : X} {r : Rw ByteArray} {j : Int} (hs : s.den env = r.atom eS) (hi : vi (i.den env).1 = j) (h0 : 0 ≤ j) (h1 : j < r.l.length) : (X.cell s i 0).den env = aS (r.get j) := by
  have hl : j.toNat < r.l.length := by omega
  simp only [X.den]
  rw [hs, hi, cell_rw, List.getElem?_eq_getElem hl, Rw.get, List.getD_eq_getElem?_getD (l := r.l), List.getElem?_eq_getElem hl]; rfl
/-- A sign, a number, an end. -/
def lineC (c n : Int) : ByteArray := ofBytes [c] ++ prt n ++ (⟨#[13, 10]⟩ : ByteArray)
theorem lineC_size {c n : Int} (h : in64 n) : ((lineC c n).size : Int) ≤ 23 := by
  have := prt_size h
  unfold lineC
  rw [size_app, size_app, show ((⟨#[13, 10]⟩ : ByteArray).size : Int) = 2 from rfl, show ((ofBytes [c]).size : Int) = 1 from rfl]
  omega
theorem lineC_42 (n : Int) : lineC 42 n = (⟨#[42]⟩ : ByteArray) ++ prt n ++ e2 := rfl
theorem lineC_36 (s : ByteArray) : lineC 36 (s.size : Int) ++ s ++ (⟨#[13, 10]⟩ : ByteArray) = bulkB s := rfl
end Go.Proofs.YtamjocnlhhhijaaK
