/- Rows of numbers: as the printed texts tell them, and as ghosts. -/
import Derived.Test.YtmhfooalcohpgaaVC
import Derived.Test.YtmhfooalcohpgaaWMore
set_option linter.unusedSimpArgs false
set_option linter.unusedVariables false
set_option linter.unusedVariables false
namespace Go.Proofs.YtmhfooalcohpgaaV
open Go Go.RowKit Go.Proofs.YtmhfooalcohpgaaW.PrintWords Go.Proofs.YtmhfooalcohpgaaW.PrintMore
def rowI (l : List Int) : D := .rows 1 (l.map fun x => [((.int .i64 x, .leaf) : Atom)])
theorem reads_of {m : Addr → Option Value} {w : World} (hm : ∀ ad v, m ad = some v → w.cell? ad = some v) {A : Option Addr} {n c : Nat} {l : List Int} (h : Good m (.slice A n c, rowI l)) (hn : l.length ≤ 9223372036854775807) :
    n = l.length ∧ Kd.C (Kd.int .i64) w A l.length l := by
  obtain ⟨h, _⟩ := h
  unfold rowI at h
  cases l with
  | nil =>
    simp only [List.map_nil] at h
    cases h with
    | nil => exact ⟨rfl, rfl, by simp, fun h => by simp at h⟩
    | rows a c sz els hz hc h1 hd hcap => exact ⟨rfl, rfl, by simp, fun h => by simp at h⟩
  | cons x l =>
    generalize he : List.map (fun x => [((.int .i64 x, .leaf) : Atom)]) (x :: l) = els at h
    cases h with
    | nil => simp at he
    | rows a c sz els hz hc h1 hd hcap =>
      have hl : els.length = (x :: l).length := by rw [← he]; simp
      refine ⟨hl, rfl, hn, fun _ => ⟨a, rfl, fun j p hj => ⟨[.int .i64 p], rfl, rfl, fun i u hi => ?_⟩⟩⟩
      have hi0 : i = 0 := by
        cases i with
        | zero => rfl
        | succ i => simp at hi
      subst hi0
      simp only [List.getElem?_cons_zero, Option.some.injEq] at hi
      subst hi
      have := hc j 0 [((.int .i64 p, .leaf) : Atom)] (.int .i64 p, .leaf) (by rw [← he, List.getElem?_map, hj]; rfl) rfl
      exact hm _ _ this
theorem good_of {w w' : World} {m : Addr → Option Value} {e base : Nat} {ok : Nat → Prop} {v : Value} {l : List Int} (h : Kd.R (Kd.int .i64) e w' base ok v l) (hb : w.heap.size ≤ base) : Good (ext m w w' []) (v, rowI l) ∧ ∃ a c, v = .slice a l.length c ∧ l.length ≤ c := by
  obtain ⟨A, c, rfl⟩ := Kd.R_slice h
  obtain ⟨_, hle, h1, h2, h3⟩ := Kd.R_reads' h
  obtain ⟨inner, h0, ho⟩ := Kd.R_own h
  refine ⟨⟨?_, rfl⟩, A, c, rfl, hle⟩
  rcases ho with ⟨hv, hn⟩ | ⟨g, cap, cur, hv, hg, hh, _⟩
  · injection hv with e1 e2 e3
    subst e1; subst e3
    cases l with
    | nil => exact .nil 1
    | cons x l => simp at e2
  · injection hv with e1 e2 e3
    subst e1; subst e3
    have key := Rd.rows (m := ext m w w' []) ⟨g, 0, none⟩ c 1 (l.map fun x => [((.int .i64 x, .leaf) : Atom)])
      (fun i row hi => by
        rw [List.getElem?_map] at hi
        obtain ⟨x, _, rfl⟩ := Option.map_eq_some_iff.1 hi
        rfl)
      (fun i j row x hi hj => by
        rw [List.getElem?_map] at hi
        obtain ⟨y, hy, rfl⟩ := Option.map_eq_some_iff.1 hi
        have hlt : i < l.length := (List.getElem?_eq_some_iff.1 hy).1
        obtain ⟨ad, e, hc⟩ := h3 (by omega)
        injection e with e
        subst e
        obtain ⟨cs, hs, hk, hcell⟩ := hc i y hy
        have hcs : cs = [.int .i64 y] := hk
        subst hcs
        cases j with
        | zero =>
          simp only [List.getElem?_cons_zero, Option.some.injEq] at hj
          subst hj
          have := hcell 0 (.int .i64 y) rfl
          unfold ext
          rw [if_pos (by unfold Addr.add; split <;> (simp only []; omega)), if_neg (by simp)]
          exact this
        | succ j => simp at hj)
      (fun i j row x hi hj => by
        rw [List.getElem?_map] at hi
        obtain ⟨y, hy, rfl⟩ := Option.map_eq_some_iff.1 hi
        cases j with
        | zero => simp only [List.getElem?_cons_zero, Option.some.injEq] at hj; subst hj; rfl
        | succ j => simp at hj)
      (fun i j row x d hi hj => by
        rw [List.getElem?_map] at hi
        obtain ⟨y, hy, rfl⟩ := Option.map_eq_some_iff.1 hi
        cases j with
        | zero => simp only [List.getElem?_cons_zero, Option.some.injEq, Prod.mk.injEq] at hj; obtain ⟨rfl, rfl⟩ := hj; exact .leaf _
        | succ j => simp at hj) (by rw [List.length_map]; exact hle)
    rw [List.length_map] at key
    exact key
theorem V_of {w : World} {A : Option Addr} {c e base : Nat} {l : List Int} (h : Kd.C (Kd.int .i64) w A l.length l) (hle : l.length ≤ c) : Kd.V (Kd.int .i64) e w base (fun k => k < w.heap.size) (.slice A l.length c) l :=
  Kd.V_mk hle (Kd.C_F (Kd.heap_int .i64) h)
theorem good_of_V {w w' : World} {m : Addr → Option Value} {e base : Nat} {ok : Nat → Prop} {v : Value} {l : List Int} (h : Kd.V (Kd.int .i64) e w' base ok v l) (hb : ∀ k, v.ownBlock = some k → w.heap.size ≤ k) (hl : 1 ≤ l.length) : Good (ext m w w' []) (v, rowI l) ∧ ∃ a c, v = .slice a l.length c ∧ l.length ≤ c := by
  obtain ⟨A, c, rfl⟩ := Kd.V_slice h
  obtain ⟨_, hle, h1⟩ := Kd.V_reads' h
  refine ⟨⟨?_, rfl⟩, A, c, rfl, hle⟩
  obtain ⟨_, _, h3⟩ := h1
  obtain ⟨ad, rfl, hc⟩ := h3 (by omega)
  have hb := hb ad.block rfl
  have key := Rd.rows (m := ext m w w' []) ad c 1 (l.map fun x => [((.int .i64 x, .leaf) : Atom)])
    (fun i row hi => by
      rw [List.getElem?_map] at hi
      obtain ⟨x, _, rfl⟩ := Option.map_eq_some_iff.1 hi
      rfl)
    (fun i j row x hi hj => by
      rw [List.getElem?_map] at hi
      obtain ⟨y, hy, rfl⟩ := Option.map_eq_some_iff.1 hi
      obtain ⟨cs, hs, hk, hcell⟩ := hc i y hy
      have hcs : cs = [.int .i64 y] := hk
      subst hcs
      cases j with
      | zero =>
        simp only [List.getElem?_cons_zero, Option.some.injEq] at hj
        subst hj
        have := hcell 0 (.int .i64 y) rfl
        unfold ext
        rw [if_pos (by unfold Addr.add; split <;> exact hb), if_neg (by simp)]
        exact this
      | succ j => simp at hj)
    (fun i j row x hi hj => by
      rw [List.getElem?_map] at hi
      obtain ⟨y, hy, rfl⟩ := Option.map_eq_some_iff.1 hi
      cases j with
      | zero => simp only [List.getElem?_cons_zero, Option.some.injEq] at hj; subst hj; rfl
      | succ j => simp at hj)
    (fun i j row x d hi hj => by
      rw [List.getElem?_map] at hi
      obtain ⟨y, hy, rfl⟩ := Option.map_eq_some_iff.1 hi
      cases j with
      | zero => simp only [List.getElem?_cons_zero, Option.some.injEq, Prod.mk.injEq] at hj; obtain ⟨rfl, rfl⟩ := hj; exact .leaf _
      | succ j => simp at hj) (by rw [List.length_map]; exact hle)
  rw [List.length_map] at key
  exact key
theorem outs0 {m : Addr → Option Value} {w w' : World} {outs : List Atom} (h : ∀ x ∈ outs, Go.Proofs.YtmhfooalcohpgaaV.Good (ext m w w' []) x) : OutsOk m w w' [] outs :=
  ⟨fun i a ha => ⟨(h a (List.mem_of_getElem? ha)).elt, fun _ => h a (List.mem_of_getElem? ha)⟩, fun p hp => absurd hp (by simp), List.Pairwise.nil⟩
end Go.Proofs.YtmhfooalcohpgaaV
