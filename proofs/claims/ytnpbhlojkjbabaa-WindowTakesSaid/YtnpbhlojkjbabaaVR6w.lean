import Derived.Test.YtnpbhlojkjbabaaVR6pm
import Derived.Test.YtnpbhlojkjbabaaVR6t

set_option linter.unusedSimpArgs false
set_option linter.unusedVariables false
namespace Go.Proofs.YtnpbhlojkjbabaaK
open Go Go.Proofs.YtnpbhlojkjbabaaV Go.Proofs
theorem hP : Try.prog.follows .mixedOrders = true := rfl
theorem rok_nil {α : Type} (k : Nat) : (Rw.nil : Rw α).ok k := .inl rfl
def kClamp (sg : Sig) : Sig × Con := (sg, mkFun (fun x : Int => ([aI x] : List Atom)) (fun _ => True) (fun n => [aI (clamp n)]))
set_option maxHeartbeats 1000000 in
theorem h27 : holds Try.prog (kClamp sg27) := by
  refine fn_holds (l := []) trivial hP rs27 (inj_of (fun l : List Atom => (vi (l.getD 0 atom0).1 : Int)) (fun _ => rfl)) Try.func27 (by kernel_rfl) (c := code Try.f27) (by kernel_rfl) (an := an27) (by kernel_rfl) (pk := pk27) rfl (t := t27) (by kernel_rfl) ?_
  rintro n hpre
  refine ⟨by simp [pk27, KindsOk, RK.ok, Rw.atom, Sl.atom], ?_⟩
  unfold t27
  refine ret_wp ?_
  try dsimp only
  simp only [vd1, vd2, vd3, vd4, vd5, vd6, vd7, reduceCtorEq, Option.some.injEq, vn_rw, va_rw, isNone_f, isNone_t, vi_cell_I, vi_cell_E0, vi_cell_E1, vi_cell_A0, vi_cell_A1, vi_cell_A2, vb_ite, vi_ite, updD, clamp]
set_option maxHeartbeats 1000000 in
theorem h32 : holds Try.prog (kClamp sg32) := by
  refine fn_holds (l := []) trivial hP rs32 (inj_of (fun l : List Atom => (vi (l.getD 0 atom0).1 : Int)) (fun _ => rfl)) Try.func32 (by kernel_rfl) (c := code Try.f32) (by kernel_rfl) (an := an32) (by kernel_rfl) (pk := pk32) rfl (t := t32) (by kernel_rfl) ?_
  rintro n hpre
  refine ⟨by simp [pk32, KindsOk, RK.ok, Rw.atom, Sl.atom], ?_⟩
  unfold t32
  refine br_wp (fun c1 => ?_) (fun c1 => ?_)
  · replace c1 : n < 0 := by first | simpa only [vd1, vd2, vd3, vd4, vd5, vd6, vd7, reduceCtorEq, Option.some.injEq, vn_rw, va_rw, isNone_f, isNone_t, vi_cell_I, vi_cell_E0, vi_cell_E1, vi_cell_A0, vi_cell_A1, vi_cell_A2, vb_ite, vi_ite, updD] using c1 | (simp only [vd1, vd2, vd3, vd4, vd5, vd6, vd7, reduceCtorEq, Option.some.injEq, vn_rw, va_rw, isNone_f, isNone_t, vi_cell_I, vi_cell_E0, vi_cell_E1, vi_cell_A0, vi_cell_A1, vi_cell_A2, vb_ite, vi_ite, updD] at c1; grind)
    refine ret_wp ?_
    try dsimp only
    (simp only [vd1, vd2, vd3, vd4, vd5, vd6, vd7, reduceCtorEq, Option.some.injEq, vn_rw, va_rw, isNone_f, isNone_t, vi_cell_I, vi_cell_E0, vi_cell_E1, vi_cell_A0, vi_cell_A1, vi_cell_A2, vb_ite, vi_ite, updD, clamp]; omega)
  · replace c1 : ¬(n < 0) := by first | simpa only [vd1, vd2, vd3, vd4, vd5, vd6, vd7, reduceCtorEq, Option.some.injEq, vn_rw, va_rw, isNone_f, isNone_t, vi_cell_I, vi_cell_E0, vi_cell_E1, vi_cell_A0, vi_cell_A1, vi_cell_A2, vb_ite, vi_ite, updD] using c1 | (simp only [vd1, vd2, vd3, vd4, vd5, vd6, vd7, reduceCtorEq, Option.some.injEq, vn_rw, va_rw, isNone_f, isNone_t, vi_cell_I, vi_cell_E0, vi_cell_E1, vi_cell_A0, vi_cell_A1, vi_cell_A2, vb_ite, vi_ite, updD] at c1; grind)
    refine br_wp (fun c2 => ?_) (fun c2 => ?_)
    · replace c2 : n > 9007199254740992 := by first | simpa only [vd1, vd2, vd3, vd4, vd5, vd6, vd7, reduceCtorEq, Option.some.injEq, vn_rw, va_rw, isNone_f, isNone_t, vi_cell_I, vi_cell_E0, vi_cell_E1, vi_cell_A0, vi_cell_A1, vi_cell_A2, vb_ite, vi_ite, updD] using c2 | (simp only [vd1, vd2, vd3, vd4, vd5, vd6, vd7, reduceCtorEq, Option.some.injEq, vn_rw, va_rw, isNone_f, isNone_t, vi_cell_I, vi_cell_E0, vi_cell_E1, vi_cell_A0, vi_cell_A1, vi_cell_A2, vb_ite, vi_ite, updD] at c2; grind)
      refine ret_wp ?_
      try dsimp only
      (simp only [vd1, vd2, vd3, vd4, vd5, vd6, vd7, reduceCtorEq, Option.some.injEq, vn_rw, va_rw, isNone_f, isNone_t, vi_cell_I, vi_cell_E0, vi_cell_E1, vi_cell_A0, vi_cell_A1, vi_cell_A2, vb_ite, vi_ite, updD, clamp]; omega)
    · replace c2 : ¬(n > 9007199254740992) := by first | simpa only [vd1, vd2, vd3, vd4, vd5, vd6, vd7, reduceCtorEq, Option.some.injEq, vn_rw, va_rw, isNone_f, isNone_t, vi_cell_I, vi_cell_E0, vi_cell_E1, vi_cell_A0, vi_cell_A1, vi_cell_A2, vb_ite, vi_ite, updD] using c2 | (simp only [vd1, vd2, vd3, vd4, vd5, vd6, vd7, reduceCtorEq, Option.some.injEq, vn_rw, va_rw, isNone_f, isNone_t, vi_cell_I, vi_cell_E0, vi_cell_E1, vi_cell_A0, vi_cell_A1, vi_cell_A2, vb_ite, vi_ite, updD] at c2; grind)
      refine ret_wp ?_
      try dsimp only
      (simp only [vd1, vd2, vd3, vd4, vd5, vd6, vd7, reduceCtorEq, Option.some.injEq, vn_rw, va_rw, isNone_f, isNone_t, vi_cell_I, vi_cell_E0, vi_cell_E1, vi_cell_A0, vi_cell_A1, vi_cell_A2, vb_ite, vi_ite, updD, clamp]; omega)
def kCheck (sg : Sig) : Sig × Con := (sg, mkFun (fun x : Pol => ([aI x.k, aI x.l, aI x.p, aI x.b, aI x.c, aB x.o] : List Atom)) (fun _ => True) (fun p => [aI (chkW p)]))
set_option maxHeartbeats 1000000 in
theorem h23 : holds Try.prog (kCheck sg23) := by
  refine fn_holds (l := []) trivial hP rs23 (inj_of (fun l : List Atom => ((⟨vi (l.getD 0 atom0).1, vi (l.getD 1 atom0).1, vi (l.getD 2 atom0).1, vi (l.getD 3 atom0).1, vi (l.getD 4 atom0).1, vb (l.getD 5 atom0).1⟩ : Pol) : Pol)) (fun _ => rfl)) Try.func23 (by kernel_rfl) (c := code Try.f23) (by kernel_rfl) (an := an23) (by kernel_rfl) (pk := pk23) rfl (t := t23) (by kernel_rfl) ?_
  rintro p hpre
  refine ⟨by simp [pk23, KindsOk, RK.ok, Rw.atom, Sl.atom], ?_⟩
  unfold t23
  refine br_wp (fun c1 => ?_) (fun c1 => ?_)
  · replace c1 : p.k ≠ 3 := by first | simpa only [vd1, vd2, vd3, vd4, vd5, vd6, vd7, reduceCtorEq, Option.some.injEq, vn_rw, va_rw, isNone_f, isNone_t, vi_cell_I, vi_cell_E0, vi_cell_E1, vi_cell_A0, vi_cell_A1, vi_cell_A2, vb_ite, vi_ite, updD] using c1 | (simp only [vd1, vd2, vd3, vd4, vd5, vd6, vd7, reduceCtorEq, Option.some.injEq, vn_rw, va_rw, isNone_f, isNone_t, vi_cell_I, vi_cell_E0, vi_cell_E1, vi_cell_A0, vi_cell_A1, vi_cell_A2, vb_ite, vi_ite, updD] at c1; grind)
    refine ret_wp ?_
    try dsimp only
    (simp only [vd1, vd2, vd3, vd4, vd5, vd6, vd7, reduceCtorEq, Option.some.injEq, vn_rw, va_rw, isNone_f, isNone_t, vi_cell_I, vi_cell_E0, vi_cell_E1, vi_cell_A0, vi_cell_A1, vi_cell_A2, vb_ite, vi_ite, updD]; first | exact (chk_yes (by unfold okW; omega)).symm | exact (chk_no (by unfold okW; omega)).symm)
  · replace c1 : ¬(p.k ≠ 3) := by first | simpa only [vd1, vd2, vd3, vd4, vd5, vd6, vd7, reduceCtorEq, Option.some.injEq, vn_rw, va_rw, isNone_f, isNone_t, vi_cell_I, vi_cell_E0, vi_cell_E1, vi_cell_A0, vi_cell_A1, vi_cell_A2, vb_ite, vi_ite, updD] using c1 | (simp only [vd1, vd2, vd3, vd4, vd5, vd6, vd7, reduceCtorEq, Option.some.injEq, vn_rw, va_rw, isNone_f, isNone_t, vi_cell_I, vi_cell_E0, vi_cell_E1, vi_cell_A0, vi_cell_A1, vi_cell_A2, vb_ite, vi_ite, updD] at c1; grind)
    refine br_wp (fun c2 => ?_) (fun c2 => ?_)
    · replace c2 : (min (min p.l p.p) p.c) < 1 := by first | simpa only [vd1, vd2, vd3, vd4, vd5, vd6, vd7, reduceCtorEq, Option.some.injEq, vn_rw, va_rw, isNone_f, isNone_t, vi_cell_I, vi_cell_E0, vi_cell_E1, vi_cell_A0, vi_cell_A1, vi_cell_A2, vb_ite, vi_ite, updD] using c2 | (simp only [vd1, vd2, vd3, vd4, vd5, vd6, vd7, reduceCtorEq, Option.some.injEq, vn_rw, va_rw, isNone_f, isNone_t, vi_cell_I, vi_cell_E0, vi_cell_E1, vi_cell_A0, vi_cell_A1, vi_cell_A2, vb_ite, vi_ite, updD] at c2; grind)
      refine ret_wp ?_
      try dsimp only
      (simp only [vd1, vd2, vd3, vd4, vd5, vd6, vd7, reduceCtorEq, Option.some.injEq, vn_rw, va_rw, isNone_f, isNone_t, vi_cell_I, vi_cell_E0, vi_cell_E1, vi_cell_A0, vi_cell_A1, vi_cell_A2, vb_ite, vi_ite, updD]; first | exact (chk_yes (by unfold okW; omega)).symm | exact (chk_no (by unfold okW; omega)).symm)
    · replace c2 : ¬((min (min p.l p.p) p.c) < 1) := by first | simpa only [vd1, vd2, vd3, vd4, vd5, vd6, vd7, reduceCtorEq, Option.some.injEq, vn_rw, va_rw, isNone_f, isNone_t, vi_cell_I, vi_cell_E0, vi_cell_E1, vi_cell_A0, vi_cell_A1, vi_cell_A2, vb_ite, vi_ite, updD] using c2 | (simp only [vd1, vd2, vd3, vd4, vd5, vd6, vd7, reduceCtorEq, Option.some.injEq, vn_rw, va_rw, isNone_f, isNone_t, vi_cell_I, vi_cell_E0, vi_cell_E1, vi_cell_A0, vi_cell_A1, vi_cell_A2, vb_ite, vi_ite, updD] at c2; grind)
      refine br_wp (fun c3 => ?_) (fun c3 => ?_)
      · replace c3 : p.l > 1048576 := by first | simpa only [vd1, vd2, vd3, vd4, vd5, vd6, vd7, reduceCtorEq, Option.some.injEq, vn_rw, va_rw, isNone_f, isNone_t, vi_cell_I, vi_cell_E0, vi_cell_E1, vi_cell_A0, vi_cell_A1, vi_cell_A2, vb_ite, vi_ite, updD] using c3 | (simp only [vd1, vd2, vd3, vd4, vd5, vd6, vd7, reduceCtorEq, Option.some.injEq, vn_rw, va_rw, isNone_f, isNone_t, vi_cell_I, vi_cell_E0, vi_cell_E1, vi_cell_A0, vi_cell_A1, vi_cell_A2, vb_ite, vi_ite, updD] at c3; grind)
        refine ret_wp ?_
        try dsimp only
        (simp only [vd1, vd2, vd3, vd4, vd5, vd6, vd7, reduceCtorEq, Option.some.injEq, vn_rw, va_rw, isNone_f, isNone_t, vi_cell_I, vi_cell_E0, vi_cell_E1, vi_cell_A0, vi_cell_A1, vi_cell_A2, vb_ite, vi_ite, updD]; first | exact (chk_yes (by unfold okW; omega)).symm | exact (chk_no (by unfold okW; omega)).symm)
      · replace c3 : ¬(p.l > 1048576) := by first | simpa only [vd1, vd2, vd3, vd4, vd5, vd6, vd7, reduceCtorEq, Option.some.injEq, vn_rw, va_rw, isNone_f, isNone_t, vi_cell_I, vi_cell_E0, vi_cell_E1, vi_cell_A0, vi_cell_A1, vi_cell_A2, vb_ite, vi_ite, updD] using c3 | (simp only [vd1, vd2, vd3, vd4, vd5, vd6, vd7, reduceCtorEq, Option.some.injEq, vn_rw, va_rw, isNone_f, isNone_t, vi_cell_I, vi_cell_E0, vi_cell_E1, vi_cell_A0, vi_cell_A1, vi_cell_A2, vb_ite, vi_ite, updD] at c3; grind)
        refine br_wp (fun c4 => ?_) (fun c4 => ?_)
        · replace c4 : p.p > 1099511627776 := by first | simpa only [vd1, vd2, vd3, vd4, vd5, vd6, vd7, reduceCtorEq, Option.some.injEq, vn_rw, va_rw, isNone_f, isNone_t, vi_cell_I, vi_cell_E0, vi_cell_E1, vi_cell_A0, vi_cell_A1, vi_cell_A2, vb_ite, vi_ite, updD] using c4 | (simp only [vd1, vd2, vd3, vd4, vd5, vd6, vd7, reduceCtorEq, Option.some.injEq, vn_rw, va_rw, isNone_f, isNone_t, vi_cell_I, vi_cell_E0, vi_cell_E1, vi_cell_A0, vi_cell_A1, vi_cell_A2, vb_ite, vi_ite, updD] at c4; grind)
          refine ret_wp ?_
          try dsimp only
          (simp only [vd1, vd2, vd3, vd4, vd5, vd6, vd7, reduceCtorEq, Option.some.injEq, vn_rw, va_rw, isNone_f, isNone_t, vi_cell_I, vi_cell_E0, vi_cell_E1, vi_cell_A0, vi_cell_A1, vi_cell_A2, vb_ite, vi_ite, updD]; first | exact (chk_yes (by unfold okW; omega)).symm | exact (chk_no (by unfold okW; omega)).symm)
        · replace c4 : ¬(p.p > 1099511627776) := by first | simpa only [vd1, vd2, vd3, vd4, vd5, vd6, vd7, reduceCtorEq, Option.some.injEq, vn_rw, va_rw, isNone_f, isNone_t, vi_cell_I, vi_cell_E0, vi_cell_E1, vi_cell_A0, vi_cell_A1, vi_cell_A2, vb_ite, vi_ite, updD] using c4 | (simp only [vd1, vd2, vd3, vd4, vd5, vd6, vd7, reduceCtorEq, Option.some.injEq, vn_rw, va_rw, isNone_f, isNone_t, vi_cell_I, vi_cell_E0, vi_cell_E1, vi_cell_A0, vi_cell_A1, vi_cell_A2, vb_ite, vi_ite, updD] at c4; grind)
          refine br_wp (fun c5 => ?_) (fun c5 => ?_)
          · replace c5 : p.c > 100 := by first | simpa only [vd1, vd2, vd3, vd4, vd5, vd6, vd7, reduceCtorEq, Option.some.injEq, vn_rw, va_rw, isNone_f, isNone_t, vi_cell_I, vi_cell_E0, vi_cell_E1, vi_cell_A0, vi_cell_A1, vi_cell_A2, vb_ite, vi_ite, updD] using c5 | (simp only [vd1, vd2, vd3, vd4, vd5, vd6, vd7, reduceCtorEq, Option.some.injEq, vn_rw, va_rw, isNone_f, isNone_t, vi_cell_I, vi_cell_E0, vi_cell_E1, vi_cell_A0, vi_cell_A1, vi_cell_A2, vb_ite, vi_ite, updD] at c5; grind)
            refine ret_wp ?_
            try dsimp only
            (simp only [vd1, vd2, vd3, vd4, vd5, vd6, vd7, reduceCtorEq, Option.some.injEq, vn_rw, va_rw, isNone_f, isNone_t, vi_cell_I, vi_cell_E0, vi_cell_E1, vi_cell_A0, vi_cell_A1, vi_cell_A2, vb_ite, vi_ite, updD]; first | exact (chk_yes (by unfold okW; omega)).symm | exact (chk_no (by unfold okW; omega)).symm)
          · replace c5 : ¬(p.c > 100) := by first | simpa only [vd1, vd2, vd3, vd4, vd5, vd6, vd7, reduceCtorEq, Option.some.injEq, vn_rw, va_rw, isNone_f, isNone_t, vi_cell_I, vi_cell_E0, vi_cell_E1, vi_cell_A0, vi_cell_A1, vi_cell_A2, vb_ite, vi_ite, updD] using c5 | (simp only [vd1, vd2, vd3, vd4, vd5, vd6, vd7, reduceCtorEq, Option.some.injEq, vn_rw, va_rw, isNone_f, isNone_t, vi_cell_I, vi_cell_E0, vi_cell_E1, vi_cell_A0, vi_cell_A1, vi_cell_A2, vb_ite, vi_ite, updD] at c5; grind)
            refine br_wp (fun c6 => ?_) (fun c6 => ?_)
            · replace c6 : p.b ≠ 0 := by first | simpa only [vd1, vd2, vd3, vd4, vd5, vd6, vd7, reduceCtorEq, Option.some.injEq, vn_rw, va_rw, isNone_f, isNone_t, vi_cell_I, vi_cell_E0, vi_cell_E1, vi_cell_A0, vi_cell_A1, vi_cell_A2, vb_ite, vi_ite, updD] using c6 | (simp only [vd1, vd2, vd3, vd4, vd5, vd6, vd7, reduceCtorEq, Option.some.injEq, vn_rw, va_rw, isNone_f, isNone_t, vi_cell_I, vi_cell_E0, vi_cell_E1, vi_cell_A0, vi_cell_A1, vi_cell_A2, vb_ite, vi_ite, updD] at c6; grind)
              refine ret_wp ?_
              try dsimp only
              (simp only [vd1, vd2, vd3, vd4, vd5, vd6, vd7, reduceCtorEq, Option.some.injEq, vn_rw, va_rw, isNone_f, isNone_t, vi_cell_I, vi_cell_E0, vi_cell_E1, vi_cell_A0, vi_cell_A1, vi_cell_A2, vb_ite, vi_ite, updD]; first | exact (chk_yes (by unfold okW; omega)).symm | exact (chk_no (by unfold okW; omega)).symm)
            · replace c6 : ¬(p.b ≠ 0) := by first | simpa only [vd1, vd2, vd3, vd4, vd5, vd6, vd7, reduceCtorEq, Option.some.injEq, vn_rw, va_rw, isNone_f, isNone_t, vi_cell_I, vi_cell_E0, vi_cell_E1, vi_cell_A0, vi_cell_A1, vi_cell_A2, vb_ite, vi_ite, updD] using c6 | (simp only [vd1, vd2, vd3, vd4, vd5, vd6, vd7, reduceCtorEq, Option.some.injEq, vn_rw, va_rw, isNone_f, isNone_t, vi_cell_I, vi_cell_E0, vi_cell_E1, vi_cell_A0, vi_cell_A1, vi_cell_A2, vb_ite, vi_ite, updD] at c6; grind)
              refine ret_wp ?_
              try dsimp only
              (simp only [vd1, vd2, vd3, vd4, vd5, vd6, vd7, reduceCtorEq, Option.some.injEq, vn_rw, va_rw, isNone_f, isNone_t, vi_cell_I, vi_cell_E0, vi_cell_E1, vi_cell_A0, vi_cell_A1, vi_cell_A2, vb_ite, vi_ite, updD]; first | exact (chk_yes (by unfold okW; omega)).symm | exact (chk_no (by unfold okW; omega)).symm)
set_option maxHeartbeats 1000000 in
theorem h22 : holds Try.prog (kCheck sg22) := by
  refine fn_holds (l := []) trivial hP rs22 (inj_of (fun l : List Atom => ((⟨vi (l.getD 0 atom0).1, vi (l.getD 1 atom0).1, vi (l.getD 2 atom0).1, vi (l.getD 3 atom0).1, vi (l.getD 4 atom0).1, vb (l.getD 5 atom0).1⟩ : Pol) : Pol)) (fun _ => rfl)) Try.func22 (by kernel_rfl) (c := code Try.f22) (by kernel_rfl) (an := an22) (by kernel_rfl) (pk := pk22) rfl (t := t22) (by kernel_rfl) ?_
  rintro p hpre
  refine ⟨by simp [pk22, KindsOk, RK.ok, Rw.atom, Sl.atom], ?_⟩
  unfold t22
  refine br_wp (fun c1 => ?_) (fun c1 => ?_)
  · replace c1 : p.k = 3 := by first | simpa only [vd1, vd2, vd3, vd4, vd5, vd6, vd7, reduceCtorEq, Option.some.injEq, vn_rw, va_rw, isNone_f, isNone_t, vi_cell_I, vi_cell_E0, vi_cell_E1, vi_cell_A0, vi_cell_A1, vi_cell_A2, vb_ite, vi_ite, updD] using c1 | (simp only [vd1, vd2, vd3, vd4, vd5, vd6, vd7, reduceCtorEq, Option.some.injEq, vn_rw, va_rw, isNone_f, isNone_t, vi_cell_I, vi_cell_E0, vi_cell_E1, vi_cell_A0, vi_cell_A1, vi_cell_A2, vb_ite, vi_ite, updD] at c1; grind)
    refine br_wp (fun c2 => ?_) (fun c2 => ?_)
    · replace c2 : p.l ≥ 1 := by first | simpa only [vd1, vd2, vd3, vd4, vd5, vd6, vd7, reduceCtorEq, Option.some.injEq, vn_rw, va_rw, isNone_f, isNone_t, vi_cell_I, vi_cell_E0, vi_cell_E1, vi_cell_A0, vi_cell_A1, vi_cell_A2, vb_ite, vi_ite, updD] using c2 | (simp only [vd1, vd2, vd3, vd4, vd5, vd6, vd7, reduceCtorEq, Option.some.injEq, vn_rw, va_rw, isNone_f, isNone_t, vi_cell_I, vi_cell_E0, vi_cell_E1, vi_cell_A0, vi_cell_A1, vi_cell_A2, vb_ite, vi_ite, updD] at c2; grind)
      refine br_wp (fun c3 => ?_) (fun c3 => ?_)
      · replace c3 : p.l ≤ 1048576 := by first | simpa only [vd1, vd2, vd3, vd4, vd5, vd6, vd7, reduceCtorEq, Option.some.injEq, vn_rw, va_rw, isNone_f, isNone_t, vi_cell_I, vi_cell_E0, vi_cell_E1, vi_cell_A0, vi_cell_A1, vi_cell_A2, vb_ite, vi_ite, updD] using c3 | (simp only [vd1, vd2, vd3, vd4, vd5, vd6, vd7, reduceCtorEq, Option.some.injEq, vn_rw, va_rw, isNone_f, isNone_t, vi_cell_I, vi_cell_E0, vi_cell_E1, vi_cell_A0, vi_cell_A1, vi_cell_A2, vb_ite, vi_ite, updD] at c3; grind)
        refine br_wp (fun c4 => ?_) (fun c4 => ?_)
        · replace c4 : p.p ≥ 1 := by first | simpa only [vd1, vd2, vd3, vd4, vd5, vd6, vd7, reduceCtorEq, Option.some.injEq, vn_rw, va_rw, isNone_f, isNone_t, vi_cell_I, vi_cell_E0, vi_cell_E1, vi_cell_A0, vi_cell_A1, vi_cell_A2, vb_ite, vi_ite, updD] using c4 | (simp only [vd1, vd2, vd3, vd4, vd5, vd6, vd7, reduceCtorEq, Option.some.injEq, vn_rw, va_rw, isNone_f, isNone_t, vi_cell_I, vi_cell_E0, vi_cell_E1, vi_cell_A0, vi_cell_A1, vi_cell_A2, vb_ite, vi_ite, updD] at c4; grind)
          refine br_wp (fun c5 => ?_) (fun c5 => ?_)
          · replace c5 : p.p ≤ 1099511627776 := by first | simpa only [vd1, vd2, vd3, vd4, vd5, vd6, vd7, reduceCtorEq, Option.some.injEq, vn_rw, va_rw, isNone_f, isNone_t, vi_cell_I, vi_cell_E0, vi_cell_E1, vi_cell_A0, vi_cell_A1, vi_cell_A2, vb_ite, vi_ite, updD] using c5 | (simp only [vd1, vd2, vd3, vd4, vd5, vd6, vd7, reduceCtorEq, Option.some.injEq, vn_rw, va_rw, isNone_f, isNone_t, vi_cell_I, vi_cell_E0, vi_cell_E1, vi_cell_A0, vi_cell_A1, vi_cell_A2, vb_ite, vi_ite, updD] at c5; grind)
            refine br_wp (fun c6 => ?_) (fun c6 => ?_)
            · replace c6 : p.c ≥ 1 := by first | simpa only [vd1, vd2, vd3, vd4, vd5, vd6, vd7, reduceCtorEq, Option.some.injEq, vn_rw, va_rw, isNone_f, isNone_t, vi_cell_I, vi_cell_E0, vi_cell_E1, vi_cell_A0, vi_cell_A1, vi_cell_A2, vb_ite, vi_ite, updD] using c6 | (simp only [vd1, vd2, vd3, vd4, vd5, vd6, vd7, reduceCtorEq, Option.some.injEq, vn_rw, va_rw, isNone_f, isNone_t, vi_cell_I, vi_cell_E0, vi_cell_E1, vi_cell_A0, vi_cell_A1, vi_cell_A2, vb_ite, vi_ite, updD] at c6; grind)
              refine br_wp (fun c7 => ?_) (fun c7 => ?_)
              · replace c7 : p.c ≤ 100 := by first | simpa only [vd1, vd2, vd3, vd4, vd5, vd6, vd7, reduceCtorEq, Option.some.injEq, vn_rw, va_rw, isNone_f, isNone_t, vi_cell_I, vi_cell_E0, vi_cell_E1, vi_cell_A0, vi_cell_A1, vi_cell_A2, vb_ite, vi_ite, updD] using c7 | (simp only [vd1, vd2, vd3, vd4, vd5, vd6, vd7, reduceCtorEq, Option.some.injEq, vn_rw, va_rw, isNone_f, isNone_t, vi_cell_I, vi_cell_E0, vi_cell_E1, vi_cell_A0, vi_cell_A1, vi_cell_A2, vb_ite, vi_ite, updD] at c7; grind)
                refine br_wp (fun c8 => ?_) (fun c8 => ?_)
                · replace c8 : p.b = 0 := by first | simpa only [vd1, vd2, vd3, vd4, vd5, vd6, vd7, reduceCtorEq, Option.some.injEq, vn_rw, va_rw, isNone_f, isNone_t, vi_cell_I, vi_cell_E0, vi_cell_E1, vi_cell_A0, vi_cell_A1, vi_cell_A2, vb_ite, vi_ite, updD] using c8 | (simp only [vd1, vd2, vd3, vd4, vd5, vd6, vd7, reduceCtorEq, Option.some.injEq, vn_rw, va_rw, isNone_f, isNone_t, vi_cell_I, vi_cell_E0, vi_cell_E1, vi_cell_A0, vi_cell_A1, vi_cell_A2, vb_ite, vi_ite, updD] at c8; grind)
                  refine ret_wp ?_
                  try dsimp only
                  (simp only [vd1, vd2, vd3, vd4, vd5, vd6, vd7, reduceCtorEq, Option.some.injEq, vn_rw, va_rw, isNone_f, isNone_t, vi_cell_I, vi_cell_E0, vi_cell_E1, vi_cell_A0, vi_cell_A1, vi_cell_A2, vb_ite, vi_ite, updD]; first | exact (chk_yes (by unfold okW; omega)).symm | exact (chk_no (by unfold okW; omega)).symm)
                · replace c8 : ¬(p.b = 0) := by first | simpa only [vd1, vd2, vd3, vd4, vd5, vd6, vd7, reduceCtorEq, Option.some.injEq, vn_rw, va_rw, isNone_f, isNone_t, vi_cell_I, vi_cell_E0, vi_cell_E1, vi_cell_A0, vi_cell_A1, vi_cell_A2, vb_ite, vi_ite, updD] using c8 | (simp only [vd1, vd2, vd3, vd4, vd5, vd6, vd7, reduceCtorEq, Option.some.injEq, vn_rw, va_rw, isNone_f, isNone_t, vi_cell_I, vi_cell_E0, vi_cell_E1, vi_cell_A0, vi_cell_A1, vi_cell_A2, vb_ite, vi_ite, updD] at c8; grind)
                  refine ret_wp ?_
                  try dsimp only
                  (simp only [vd1, vd2, vd3, vd4, vd5, vd6, vd7, reduceCtorEq, Option.some.injEq, vn_rw, va_rw, isNone_f, isNone_t, vi_cell_I, vi_cell_E0, vi_cell_E1, vi_cell_A0, vi_cell_A1, vi_cell_A2, vb_ite, vi_ite, updD]; first | exact (chk_yes (by unfold okW; omega)).symm | exact (chk_no (by unfold okW; omega)).symm)
              · replace c7 : ¬(p.c ≤ 100) := by first | simpa only [vd1, vd2, vd3, vd4, vd5, vd6, vd7, reduceCtorEq, Option.some.injEq, vn_rw, va_rw, isNone_f, isNone_t, vi_cell_I, vi_cell_E0, vi_cell_E1, vi_cell_A0, vi_cell_A1, vi_cell_A2, vb_ite, vi_ite, updD] using c7 | (simp only [vd1, vd2, vd3, vd4, vd5, vd6, vd7, reduceCtorEq, Option.some.injEq, vn_rw, va_rw, isNone_f, isNone_t, vi_cell_I, vi_cell_E0, vi_cell_E1, vi_cell_A0, vi_cell_A1, vi_cell_A2, vb_ite, vi_ite, updD] at c7; grind)
                refine ret_wp ?_
                try dsimp only
                (simp only [vd1, vd2, vd3, vd4, vd5, vd6, vd7, reduceCtorEq, Option.some.injEq, vn_rw, va_rw, isNone_f, isNone_t, vi_cell_I, vi_cell_E0, vi_cell_E1, vi_cell_A0, vi_cell_A1, vi_cell_A2, vb_ite, vi_ite, updD]; first | exact (chk_yes (by unfold okW; omega)).symm | exact (chk_no (by unfold okW; omega)).symm)
            · replace c6 : ¬(p.c ≥ 1) := by first | simpa only [vd1, vd2, vd3, vd4, vd5, vd6, vd7, reduceCtorEq, Option.some.injEq, vn_rw, va_rw, isNone_f, isNone_t, vi_cell_I, vi_cell_E0, vi_cell_E1, vi_cell_A0, vi_cell_A1, vi_cell_A2, vb_ite, vi_ite, updD] using c6 | (simp only [vd1, vd2, vd3, vd4, vd5, vd6, vd7, reduceCtorEq, Option.some.injEq, vn_rw, va_rw, isNone_f, isNone_t, vi_cell_I, vi_cell_E0, vi_cell_E1, vi_cell_A0, vi_cell_A1, vi_cell_A2, vb_ite, vi_ite, updD] at c6; grind)
              refine ret_wp ?_
              try dsimp only
              (simp only [vd1, vd2, vd3, vd4, vd5, vd6, vd7, reduceCtorEq, Option.some.injEq, vn_rw, va_rw, isNone_f, isNone_t, vi_cell_I, vi_cell_E0, vi_cell_E1, vi_cell_A0, vi_cell_A1, vi_cell_A2, vb_ite, vi_ite, updD]; first | exact (chk_yes (by unfold okW; omega)).symm | exact (chk_no (by unfold okW; omega)).symm)
          · replace c5 : ¬(p.p ≤ 1099511627776) := by first | simpa only [vd1, vd2, vd3, vd4, vd5, vd6, vd7, reduceCtorEq, Option.some.injEq, vn_rw, va_rw, isNone_f, isNone_t, vi_cell_I, vi_cell_E0, vi_cell_E1, vi_cell_A0, vi_cell_A1, vi_cell_A2, vb_ite, vi_ite, updD] using c5 | (simp only [vd1, vd2, vd3, vd4, vd5, vd6, vd7, reduceCtorEq, Option.some.injEq, vn_rw, va_rw, isNone_f, isNone_t, vi_cell_I, vi_cell_E0, vi_cell_E1, vi_cell_A0, vi_cell_A1, vi_cell_A2, vb_ite, vi_ite, updD] at c5; grind)
            refine ret_wp ?_
            try dsimp only
            (simp only [vd1, vd2, vd3, vd4, vd5, vd6, vd7, reduceCtorEq, Option.some.injEq, vn_rw, va_rw, isNone_f, isNone_t, vi_cell_I, vi_cell_E0, vi_cell_E1, vi_cell_A0, vi_cell_A1, vi_cell_A2, vb_ite, vi_ite, updD]; first | exact (chk_yes (by unfold okW; omega)).symm | exact (chk_no (by unfold okW; omega)).symm)
        · replace c4 : ¬(p.p ≥ 1) := by first | simpa only [vd1, vd2, vd3, vd4, vd5, vd6, vd7, reduceCtorEq, Option.some.injEq, vn_rw, va_rw, isNone_f, isNone_t, vi_cell_I, vi_cell_E0, vi_cell_E1, vi_cell_A0, vi_cell_A1, vi_cell_A2, vb_ite, vi_ite, updD] using c4 | (simp only [vd1, vd2, vd3, vd4, vd5, vd6, vd7, reduceCtorEq, Option.some.injEq, vn_rw, va_rw, isNone_f, isNone_t, vi_cell_I, vi_cell_E0, vi_cell_E1, vi_cell_A0, vi_cell_A1, vi_cell_A2, vb_ite, vi_ite, updD] at c4; grind)
          refine ret_wp ?_
          try dsimp only
          (simp only [vd1, vd2, vd3, vd4, vd5, vd6, vd7, reduceCtorEq, Option.some.injEq, vn_rw, va_rw, isNone_f, isNone_t, vi_cell_I, vi_cell_E0, vi_cell_E1, vi_cell_A0, vi_cell_A1, vi_cell_A2, vb_ite, vi_ite, updD]; first | exact (chk_yes (by unfold okW; omega)).symm | exact (chk_no (by unfold okW; omega)).symm)
      · replace c3 : ¬(p.l ≤ 1048576) := by first | simpa only [vd1, vd2, vd3, vd4, vd5, vd6, vd7, reduceCtorEq, Option.some.injEq, vn_rw, va_rw, isNone_f, isNone_t, vi_cell_I, vi_cell_E0, vi_cell_E1, vi_cell_A0, vi_cell_A1, vi_cell_A2, vb_ite, vi_ite, updD] using c3 | (simp only [vd1, vd2, vd3, vd4, vd5, vd6, vd7, reduceCtorEq, Option.some.injEq, vn_rw, va_rw, isNone_f, isNone_t, vi_cell_I, vi_cell_E0, vi_cell_E1, vi_cell_A0, vi_cell_A1, vi_cell_A2, vb_ite, vi_ite, updD] at c3; grind)
        refine ret_wp ?_
        try dsimp only
        (simp only [vd1, vd2, vd3, vd4, vd5, vd6, vd7, reduceCtorEq, Option.some.injEq, vn_rw, va_rw, isNone_f, isNone_t, vi_cell_I, vi_cell_E0, vi_cell_E1, vi_cell_A0, vi_cell_A1, vi_cell_A2, vb_ite, vi_ite, updD]; first | exact (chk_yes (by unfold okW; omega)).symm | exact (chk_no (by unfold okW; omega)).symm)
    · replace c2 : ¬(p.l ≥ 1) := by first | simpa only [vd1, vd2, vd3, vd4, vd5, vd6, vd7, reduceCtorEq, Option.some.injEq, vn_rw, va_rw, isNone_f, isNone_t, vi_cell_I, vi_cell_E0, vi_cell_E1, vi_cell_A0, vi_cell_A1, vi_cell_A2, vb_ite, vi_ite, updD] using c2 | (simp only [vd1, vd2, vd3, vd4, vd5, vd6, vd7, reduceCtorEq, Option.some.injEq, vn_rw, va_rw, isNone_f, isNone_t, vi_cell_I, vi_cell_E0, vi_cell_E1, vi_cell_A0, vi_cell_A1, vi_cell_A2, vb_ite, vi_ite, updD] at c2; grind)
      refine ret_wp ?_
      try dsimp only
      (simp only [vd1, vd2, vd3, vd4, vd5, vd6, vd7, reduceCtorEq, Option.some.injEq, vn_rw, va_rw, isNone_f, isNone_t, vi_cell_I, vi_cell_E0, vi_cell_E1, vi_cell_A0, vi_cell_A1, vi_cell_A2, vb_ite, vi_ite, updD]; first | exact (chk_yes (by unfold okW; omega)).symm | exact (chk_no (by unfold okW; omega)).symm)
  · replace c1 : ¬(p.k = 3) := by first | simpa only [vd1, vd2, vd3, vd4, vd5, vd6, vd7, reduceCtorEq, Option.some.injEq, vn_rw, va_rw, isNone_f, isNone_t, vi_cell_I, vi_cell_E0, vi_cell_E1, vi_cell_A0, vi_cell_A1, vi_cell_A2, vb_ite, vi_ite, updD] using c1 | (simp only [vd1, vd2, vd3, vd4, vd5, vd6, vd7, reduceCtorEq, Option.some.injEq, vn_rw, va_rw, isNone_f, isNone_t, vi_cell_I, vi_cell_E0, vi_cell_E1, vi_cell_A0, vi_cell_A1, vi_cell_A2, vb_ite, vi_ite, updD] at c1; grind)
    refine ret_wp ?_
    try dsimp only
    (simp only [vd1, vd2, vd3, vd4, vd5, vd6, vd7, reduceCtorEq, Option.some.injEq, vn_rw, va_rw, isNone_f, isNone_t, vi_cell_I, vi_cell_E0, vi_cell_E1, vi_cell_A0, vi_cell_A1, vi_cell_A2, vb_ite, vi_ite, updD]; first | exact (chk_yes (by unfold okW; omega)).symm | exact (chk_no (by unfold okW; omega)).symm)
def kNew (sg : Sig) : Sig × Con := (sg, mkRel (fun x : Pol × Int => ([aI x.1.k, aI x.1.l, aI x.1.p, aI x.1.b, aI x.1.c, aB x.1.o, aI x.2] : List Atom)) (fun _ => True) (fun x : Est => ([aI x.t, aI x.v, aI x.h, Rw.atom eE x.g] : List Atom)) (fun x y => w y = newW x.1 x.2 ∧ gok y))
set_option maxHeartbeats 1000000 in
theorem h14 : holds Try.prog (kNew sg14) := by
  refine fn_holds (l := [kCheck sg23, kClamp sg27]) ⟨h23, h27, trivial⟩ hP rs14 (inj_of (fun l : List Atom => (((⟨vi (l.getD 0 atom0).1, vi (l.getD 1 atom0).1, vi (l.getD 2 atom0).1, vi (l.getD 3 atom0).1, vi (l.getD 4 atom0).1, vb (l.getD 5 atom0).1⟩ : Pol), vi (l.getD 6 atom0).1) : Pol × Int)) (fun _ => rfl)) Try.func14 (by kernel_rfl) (c := code Try.f14) (by kernel_rfl) (an := an14) (by kernel_rfl) (pk := pk14) rfl (t := t14) (by kernel_rfl) ?_
  rintro ⟨p, n⟩ hpre
  refine ⟨by simp [pk14, KindsOk, RK.ok, Rw.atom, Sl.atom], ?_⟩
  unfold t14
  refine call_fun (p) rfl (by simp only [vd1, vd2, vd3, vd4, vd5, vd6, vd7, reduceCtorEq, Option.some.injEq, vn_rw, va_rw, isNone_f, isNone_t, vi_cell_I, vi_cell_E0, vi_cell_E1, vi_cell_A0, vi_cell_A1, vi_cell_A2, vb_ite, vi_ite, updD]) trivial ?_
  refine br_wp (fun c1 => ?_) (fun c1 => ?_)
  · replace c1 : (chkW p) ≠ 0 := by first | simpa only [vd1, vd2, vd3, vd4, vd5, vd6, vd7, reduceCtorEq, Option.some.injEq, vn_rw, va_rw, isNone_f, isNone_t, vi_cell_I, vi_cell_E0, vi_cell_E1, vi_cell_A0, vi_cell_A1, vi_cell_A2, vb_ite, vi_ite, updD] using c1 | (simp only [vd1, vd2, vd3, vd4, vd5, vd6, vd7, reduceCtorEq, Option.some.injEq, vn_rw, va_rw, isNone_f, isNone_t, vi_cell_I, vi_cell_E0, vi_cell_E1, vi_cell_A0, vi_cell_A1, vi_cell_A2, vb_ite, vi_ite, updD] at c1; grind)
    have ok : ¬okW p := fun h => c1 (chk_yes h)
    refine need_wp (by first | exact ⟨_, _, _, rfl⟩ | (simp only [vd1, vd2, vd3, vd4, vd5, vd6, vd7, reduceCtorEq, Option.some.injEq, vn_rw, va_rw, isNone_f, isNone_t, vi_cell_I, vi_cell_E0, vi_cell_E1, vi_cell_A0, vi_cell_A1, vi_cell_A2, vb_ite, vi_ite, updD]; exact ⟨_, _, _, rfl⟩)) ?_
    refine ret_wp ?_
    refine ⟨(⟨0, 0, 0, Rw.nil⟩ : Est), by first | (simp only [vd1, vd2, vd3, vd4, vd5, vd6, vd7, reduceCtorEq, Option.some.injEq, vn_rw, va_rw, isNone_f, isNone_t, vi_cell_I, vi_cell_E0, vi_cell_E1, vi_cell_A0, vi_cell_A1, vi_cell_A2, vb_ite, vi_ite, updD]; done) | (simp only [vd1, vd2, vd3, vd4, vd5, vd6, vd7, reduceCtorEq, Option.some.injEq, vn_rw, va_rw, isNone_f, isNone_t, vi_cell_I, vi_cell_E0, vi_cell_E1, vi_cell_A0, vi_cell_A1, vi_cell_A2, vb_ite, vi_ite, updD]; rfl), ?_⟩
    try dsimp only
    exact ⟨by simp only [w, newW, ok, if_true, if_false, zeroW]; rfl, .inl rfl, by simp [Rw.nil]⟩
  · replace c1 : ¬((chkW p) ≠ 0) := by first | simpa only [vd1, vd2, vd3, vd4, vd5, vd6, vd7, reduceCtorEq, Option.some.injEq, vn_rw, va_rw, isNone_f, isNone_t, vi_cell_I, vi_cell_E0, vi_cell_E1, vi_cell_A0, vi_cell_A1, vi_cell_A2, vb_ite, vi_ite, updD] using c1 | (simp only [vd1, vd2, vd3, vd4, vd5, vd6, vd7, reduceCtorEq, Option.some.injEq, vn_rw, va_rw, isNone_f, isNone_t, vi_cell_I, vi_cell_E0, vi_cell_E1, vi_cell_A0, vi_cell_A1, vi_cell_A2, vb_ite, vi_ite, updD] at c1; grind)
    have ok : okW p := (chk_iff p).1 (by omega)
    refine call_fun (n) rfl (by simp only [vd1, vd2, vd3, vd4, vd5, vd6, vd7, reduceCtorEq, Option.some.injEq, vn_rw, va_rw, isNone_f, isNone_t, vi_cell_I, vi_cell_E0, vi_cell_E1, vi_cell_A0, vi_cell_A1, vi_cell_A2, vb_ite, vi_ite, updD]) trivial ?_
    refine need_wp (by first | exact ⟨_, _, _, rfl⟩ | (simp only [vd1, vd2, vd3, vd4, vd5, vd6, vd7, reduceCtorEq, Option.some.injEq, vn_rw, va_rw, isNone_f, isNone_t, vi_cell_I, vi_cell_E0, vi_cell_E1, vi_cell_A0, vi_cell_A1, vi_cell_A2, vb_ite, vi_ite, updD]; exact ⟨_, _, _, rfl⟩)) ?_
    refine ret_wp ?_
    refine ⟨(⟨(clamp n), 0, 0, Rw.nil⟩ : Est), by first | (simp only [vd1, vd2, vd3, vd4, vd5, vd6, vd7, reduceCtorEq, Option.some.injEq, vn_rw, va_rw, isNone_f, isNone_t, vi_cell_I, vi_cell_E0, vi_cell_E1, vi_cell_A0, vi_cell_A1, vi_cell_A2, vb_ite, vi_ite, updD]; done) | (simp only [vd1, vd2, vd3, vd4, vd5, vd6, vd7, reduceCtorEq, Option.some.injEq, vn_rw, va_rw, isNone_f, isNone_t, vi_cell_I, vi_cell_E0, vi_cell_E1, vi_cell_A0, vi_cell_A1, vi_cell_A2, vb_ite, vi_ite, updD]; rfl), ?_⟩
    try dsimp only
    exact ⟨by simp only [w, newW, ok, if_true, if_false, zeroW]; rfl, .inl rfl, by simp [Rw.nil]⟩
set_option maxHeartbeats 1000000 in
theorem h24 : holds Try.prog (kNew sg24) := by
  refine fn_holds (l := [kCheck sg22, kClamp sg32]) ⟨h22, h32, trivial⟩ hP rs24 (inj_of (fun l : List Atom => (((⟨vi (l.getD 0 atom0).1, vi (l.getD 1 atom0).1, vi (l.getD 2 atom0).1, vi (l.getD 3 atom0).1, vi (l.getD 4 atom0).1, vb (l.getD 5 atom0).1⟩ : Pol), vi (l.getD 6 atom0).1) : Pol × Int)) (fun _ => rfl)) Try.func24 (by kernel_rfl) (c := code Try.f24) (by kernel_rfl) (an := an24) (by kernel_rfl) (pk := pk24) rfl (t := t24) (by kernel_rfl) ?_
  rintro ⟨p, n⟩ hpre
  refine ⟨by simp [pk24, KindsOk, RK.ok, Rw.atom, Sl.atom], ?_⟩
  unfold t24
  refine call_fun (p) rfl (by simp only [vd1, vd2, vd3, vd4, vd5, vd6, vd7, reduceCtorEq, Option.some.injEq, vn_rw, va_rw, isNone_f, isNone_t, vi_cell_I, vi_cell_E0, vi_cell_E1, vi_cell_A0, vi_cell_A1, vi_cell_A2, vb_ite, vi_ite, updD]) trivial ?_
  refine br_wp (fun c1 => ?_) (fun c1 => ?_)
  · replace c1 : (chkW p) ≠ 0 := by first | simpa only [vd1, vd2, vd3, vd4, vd5, vd6, vd7, reduceCtorEq, Option.some.injEq, vn_rw, va_rw, isNone_f, isNone_t, vi_cell_I, vi_cell_E0, vi_cell_E1, vi_cell_A0, vi_cell_A1, vi_cell_A2, vb_ite, vi_ite, updD] using c1 | (simp only [vd1, vd2, vd3, vd4, vd5, vd6, vd7, reduceCtorEq, Option.some.injEq, vn_rw, va_rw, isNone_f, isNone_t, vi_cell_I, vi_cell_E0, vi_cell_E1, vi_cell_A0, vi_cell_A1, vi_cell_A2, vb_ite, vi_ite, updD] at c1; grind)
    have ok : ¬okW p := fun h => c1 (chk_yes h)
    refine need_wp (by first | exact ⟨_, _, _, rfl⟩ | (simp only [vd1, vd2, vd3, vd4, vd5, vd6, vd7, reduceCtorEq, Option.some.injEq, vn_rw, va_rw, isNone_f, isNone_t, vi_cell_I, vi_cell_E0, vi_cell_E1, vi_cell_A0, vi_cell_A1, vi_cell_A2, vb_ite, vi_ite, updD]; exact ⟨_, _, _, rfl⟩)) ?_
    refine ret_wp ?_
    refine ⟨(⟨0, 0, 0, Rw.nil⟩ : Est), by first | (simp only [vd1, vd2, vd3, vd4, vd5, vd6, vd7, reduceCtorEq, Option.some.injEq, vn_rw, va_rw, isNone_f, isNone_t, vi_cell_I, vi_cell_E0, vi_cell_E1, vi_cell_A0, vi_cell_A1, vi_cell_A2, vb_ite, vi_ite, updD]; done) | (simp only [vd1, vd2, vd3, vd4, vd5, vd6, vd7, reduceCtorEq, Option.some.injEq, vn_rw, va_rw, isNone_f, isNone_t, vi_cell_I, vi_cell_E0, vi_cell_E1, vi_cell_A0, vi_cell_A1, vi_cell_A2, vb_ite, vi_ite, updD]; rfl), ?_⟩
    try dsimp only
    exact ⟨by simp only [w, newW, ok, if_true, if_false, zeroW]; rfl, .inl rfl, by simp [Rw.nil]⟩
  · replace c1 : ¬((chkW p) ≠ 0) := by first | simpa only [vd1, vd2, vd3, vd4, vd5, vd6, vd7, reduceCtorEq, Option.some.injEq, vn_rw, va_rw, isNone_f, isNone_t, vi_cell_I, vi_cell_E0, vi_cell_E1, vi_cell_A0, vi_cell_A1, vi_cell_A2, vb_ite, vi_ite, updD] using c1 | (simp only [vd1, vd2, vd3, vd4, vd5, vd6, vd7, reduceCtorEq, Option.some.injEq, vn_rw, va_rw, isNone_f, isNone_t, vi_cell_I, vi_cell_E0, vi_cell_E1, vi_cell_A0, vi_cell_A1, vi_cell_A2, vb_ite, vi_ite, updD] at c1; grind)
    have ok : okW p := (chk_iff p).1 (by omega)
    refine call_fun (n) rfl (by simp only [vd1, vd2, vd3, vd4, vd5, vd6, vd7, reduceCtorEq, Option.some.injEq, vn_rw, va_rw, isNone_f, isNone_t, vi_cell_I, vi_cell_E0, vi_cell_E1, vi_cell_A0, vi_cell_A1, vi_cell_A2, vb_ite, vi_ite, updD]) trivial ?_
    refine need_wp (by first | exact ⟨_, _, _, rfl⟩ | (simp only [vd1, vd2, vd3, vd4, vd5, vd6, vd7, reduceCtorEq, Option.some.injEq, vn_rw, va_rw, isNone_f, isNone_t, vi_cell_I, vi_cell_E0, vi_cell_E1, vi_cell_A0, vi_cell_A1, vi_cell_A2, vb_ite, vi_ite, updD]; exact ⟨_, _, _, rfl⟩)) ?_
    refine ret_wp ?_
    refine ⟨(⟨(clamp n), 0, 0, Rw.nil⟩ : Est), by first | (simp only [vd1, vd2, vd3, vd4, vd5, vd6, vd7, reduceCtorEq, Option.some.injEq, vn_rw, va_rw, isNone_f, isNone_t, vi_cell_I, vi_cell_E0, vi_cell_E1, vi_cell_A0, vi_cell_A1, vi_cell_A2, vb_ite, vi_ite, updD]; done) | (simp only [vd1, vd2, vd3, vd4, vd5, vd6, vd7, reduceCtorEq, Option.some.injEq, vn_rw, va_rw, isNone_f, isNone_t, vi_cell_I, vi_cell_E0, vi_cell_E1, vi_cell_A0, vi_cell_A1, vi_cell_A2, vb_ite, vi_ite, updD]; rfl), ?_⟩
    try dsimp only
    exact ⟨by simp only [w, newW, ok, if_true, if_false, zeroW]; rfl, .inl rfl, by simp [Rw.nil]⟩
def kClone (sg : Sig) : Sig × Con := (sg, mkRel (fun x : Rw (Int × Int) => ([Rw.atom eE x] : List Atom)) (fun x => x.ok 2 ∧ x.l.length ≤ 4398046511104) (fun x : Rw (Int × Int) => ([Rw.atom eE x] : List Atom)) (fun x y => y.l = x.l ∧ y.ok 2))
set_option maxHeartbeats 1000000 in
theorem h28 : holds Try.prog (kClone sg28) := by
  refine fn_holdsG (inl := []) (l := []) trivial trivial hP rs28 (inj_of (fun l : List Atom => (Rw.un unE (l.getD 0 atom0) : Rw (Int × Int))) (fun _ => by simp [List.getD_cons_zero, List.getD_cons_succ, unA_atom])) Try.func28 (by kernel_rfl) (c := code Try.f28) (by kernel_rfl) (an := an28) (by kernel_rfl) (pk := pk28) rfl (t := t28) (by kernel_rfl) ?_
  rintro r hnil ⟨k1, k2⟩
  refine ⟨by simp [pk28, KindsOk, RK.ok, Rw.atom, Sl.atom], ?_⟩
  unfold t28
  try simp only at k1 k2
  have hnil := hnil (r.atom eE) List.mem_cons_self
  refine need_wp (by first | exact ⟨_, _, _, rfl⟩ | (simp only [vd1, vd2, vd3, vd4, vd5, vd6, vd7, reduceCtorEq, Option.some.injEq, vn_rw, va_rw, isNone_f, isNone_t, vi_cell_I, vi_cell_E0, vi_cell_E1, vi_cell_A0, vi_cell_A1, vi_cell_A2, vb_ite, vi_ite, updD]; exact ⟨_, _, _, rfl⟩)) ?_
  refine br_wp (fun c1 => ?_) (fun c1 => ?_)
  · replace c1 : r.a = none := by first | simpa only [vd1, vd2, vd3, vd4, vd5, vd6, vd7, reduceCtorEq, Option.some.injEq, vn_rw, va_rw, isNone_f, isNone_t, vi_cell_I, vi_cell_E0, vi_cell_E1, vi_cell_A0, vi_cell_A1, vi_cell_A2, vb_ite, vi_ite, updD] using c1 | (simp only [vd1, vd2, vd3, vd4, vd5, vd6, vd7, reduceCtorEq, Option.some.injEq, vn_rw, va_rw, isNone_f, isNone_t, vi_cell_I, vi_cell_E0, vi_cell_E1, vi_cell_A0, vi_cell_A1, vi_cell_A2, vb_ite, vi_ite, updD] at c1; grind)
    have hr : r.l = [] := nil_l hnil c1
    refine need_wp (by first | exact ⟨_, _, _, rfl⟩ | (simp only [vd1, vd2, vd3, vd4, vd5, vd6, vd7, reduceCtorEq, Option.some.injEq, vn_rw, va_rw, isNone_f, isNone_t, vi_cell_I, vi_cell_E0, vi_cell_E1, vi_cell_A0, vi_cell_A1, vi_cell_A2, vb_ite, vi_ite, updD]; exact ⟨_, _, _, rfl⟩)) ?_
    refine ret_wp ?_
    refine ⟨Rw.nil, by first | (simp only [vd1, vd2, vd3, vd4, vd5, vd6, vd7, reduceCtorEq, Option.some.injEq, vn_rw, va_rw, isNone_f, isNone_t, vi_cell_I, vi_cell_E0, vi_cell_E1, vi_cell_A0, vi_cell_A1, vi_cell_A2, vb_ite, vi_ite, updD]; done) | (simp only [vd1, vd2, vd3, vd4, vd5, vd6, vd7, reduceCtorEq, Option.some.injEq, vn_rw, va_rw, isNone_f, isNone_t, vi_cell_I, vi_cell_E0, vi_cell_E1, vi_cell_A0, vi_cell_A1, vi_cell_A2, vb_ite, vi_ite, updD]; rfl), ?_⟩
    try dsimp only
    exact ⟨by rw [hr]; rfl, .inl rfl⟩
  · replace c1 : ¬(r.a = none) := by first | simpa only [vd1, vd2, vd3, vd4, vd5, vd6, vd7, reduceCtorEq, Option.some.injEq, vn_rw, va_rw, isNone_f, isNone_t, vi_cell_I, vi_cell_E0, vi_cell_E1, vi_cell_A0, vi_cell_A1, vi_cell_A2, vb_ite, vi_ite, updD] using c1 | (simp only [vd1, vd2, vd3, vd4, vd5, vd6, vd7, reduceCtorEq, Option.some.injEq, vn_rw, va_rw, isNone_f, isNone_t, vi_cell_I, vi_cell_E0, vi_cell_E1, vi_cell_A0, vi_cell_A1, vi_cell_A2, vb_ite, vi_ite, updD] at c1; grind)
    refine new_wp eE [] (by simp only [vd1, vd2, vd3, vd4, vd5, vd6, vd7, reduceCtorEq, Option.some.injEq, vn_rw, va_rw, isNone_f, isNone_t, vi_cell_I, vi_cell_E0, vi_cell_E1, vi_cell_A0, vi_cell_A1, vi_cell_A2, vb_ite, vi_ite, updD, eE]) ?_
    intro a1 b1
    refine need_wp (by first | exact ⟨_, _, _, rfl⟩ | (simp only [vd1, vd2, vd3, vd4, vd5, vd6, vd7, reduceCtorEq, Option.some.injEq, vn_rw, va_rw, isNone_f, isNone_t, vi_cell_I, vi_cell_E0, vi_cell_E1, vi_cell_A0, vi_cell_A1, vi_cell_A2, vb_ite, vi_ite, updD]; exact ⟨_, _, _, rfl⟩)) ?_
    refine need_wp (by first | exact rw_szz (by assumption) | exact rw_szz (.inr rfl)) ?_
    refine need_wp (by simp only [vd1, vd2, vd3, vd4, vd5, vd6, vd7, reduceCtorEq, Option.some.injEq, vn_rw, va_rw, isNone_f, isNone_t, vi_cell_I, vi_cell_E0, vi_cell_E1, vi_cell_A0, vi_cell_A1, vi_cell_A2, vb_ite, vi_ite, updD, List.length_cons, List.length_nil, List.length_append, List.length_set]; first | omega | (grind)) ?_
    refine need_wp (by simp only [vd1, vd2, vd3, vd4, vd5, vd6, vd7, reduceCtorEq, Option.some.injEq, vn_rw, va_rw, isNone_f, isNone_t, vi_cell_I, vi_cell_E0, vi_cell_E1, vi_cell_A0, vi_cell_A1, vi_cell_A2, vb_ite, vi_ite, updD, List.length_cons, List.length_nil, List.length_append, List.length_set]; first | omega | (grind)) ?_
    refine app_wp eE (⟨a1, b1, 2, []⟩ : Rw (Int × Int)) r (by first | rfl | simp only [vd1, vd2, vd3, vd4, vd5, vd6, vd7, reduceCtorEq, Option.some.injEq, vn_rw, va_rw, isNone_f, isNone_t, vi_cell_I, vi_cell_E0, vi_cell_E1, vi_cell_A0, vi_cell_A1, vi_cell_A2, vb_ite, vi_ite, updD]) (by first | rfl | simp only [vd1, vd2, vd3, vd4, vd5, vd6, vd7, reduceCtorEq, Option.some.injEq, vn_rw, va_rw, isNone_f, isNone_t, vi_cell_I, vi_cell_E0, vi_cell_E1, vi_cell_A0, vi_cell_A1, vi_cell_A2, vb_ite, vi_ite, updD]) ?_
    intro a2 b2
    refine need_wp (by first | exact ⟨_, _, _, rfl⟩ | (simp only [vd1, vd2, vd3, vd4, vd5, vd6, vd7, reduceCtorEq, Option.some.injEq, vn_rw, va_rw, isNone_f, isNone_t, vi_cell_I, vi_cell_E0, vi_cell_E1, vi_cell_A0, vi_cell_A1, vi_cell_A2, vb_ite, vi_ite, updD]; exact ⟨_, _, _, rfl⟩)) ?_
    refine ret_wp ?_
    refine ⟨(⟨a2, b2, 2, [] ++ r.l⟩ : Rw (Int × Int)), by first | (simp only [vd1, vd2, vd3, vd4, vd5, vd6, vd7, reduceCtorEq, Option.some.injEq, vn_rw, va_rw, isNone_f, isNone_t, vi_cell_I, vi_cell_E0, vi_cell_E1, vi_cell_A0, vi_cell_A1, vi_cell_A2, vb_ite, vi_ite, updD]; done) | (simp only [vd1, vd2, vd3, vd4, vd5, vd6, vd7, reduceCtorEq, Option.some.injEq, vn_rw, va_rw, isNone_f, isNone_t, vi_cell_I, vi_cell_E0, vi_cell_E1, vi_cell_A0, vi_cell_A1, vi_cell_A2, vb_ite, vi_ite, updD]; rfl), ?_⟩
    try dsimp only
    exact ⟨by simp, .inr rfl⟩
def kSum (sg : Sig) : Sig × Con := (sg, mkFun (fun x : Rw (Int × Int) => ([Rw.atom eE x] : List Atom)) (fun x => kok x) (fun x => [aI (IntKind.i64.wrap (tot x.l))]))
set_option maxHeartbeats 1000000 in
theorem h29 : holds Try.prog (kSum sg29) := by
  refine fn_holdsI (l := []) trivial (inl := [in29_39]) (by refine ⟨⟨Try.func39, by kernel_rfl, by kernel_rfl, by kernel_rfl⟩, trivial⟩) hP rs29 (inj_of (fun l : List Atom => (Rw.un unE (l.getD 0 atom0) : Rw (Int × Int))) (fun _ => by simp [List.getD_cons_zero, List.getD_cons_succ, unA_atom])) Try.func29 (by kernel_rfl) (c := code Try.f29) (by kernel_rfl) (an := an29) (by kernel_rfl) (pk := pk29) rfl (t := t29) (by kernel_rfl) ?_
  rintro r ⟨k1, k2⟩
  refine ⟨by simp [pk29, KindsOk, RK.ok, Rw.atom, Sl.atom], ?_⟩
  unfold t29
  try simp only at k1 k2
  refine need_wp (by first | exact ⟨_, _, _, rfl⟩ | (simp only [vd1, vd2, vd3, vd4, vd5, vd6, vd7, reduceCtorEq, Option.some.injEq, vn_rw, va_rw, isNone_f, isNone_t, vi_cell_I, vi_cell_E0, vi_cell_E1, vi_cell_A0, vi_cell_A1, vi_cell_A2, vb_ite, vi_ite, updD]; exact ⟨_, _, _, rfl⟩)) ?_
  refine loop_wp (fun bs0 => ∃ (i : Int) (n : Int), bs0 = [aI i, aI n] ∧ (0 ≤ i ∧ i ≤ r.l.length ∧ n = IntKind.i64.wrap (tot (r.l.take i.toNat)))) (fun bs0 => ((r.l.length : Int) - vi (bs0.getD 0 atom0).1).toNat) ?_ ?_
  · refine ⟨0, 0, by simp only [vd1, vd2, vd3, vd4, vd5, vd6, vd7, reduceCtorEq, Option.some.injEq, vn_rw, va_rw, isNone_f, isNone_t, vi_cell_I, vi_cell_E0, vi_cell_E1, vi_cell_A0, vi_cell_A1, vi_cell_A2, vb_ite, vi_ite, updD, Rw.atom, Rw.nil, List.length_nil, List.map_nil], ?_⟩
    exact ⟨by omega, by omega, by simp [tot]; rfl⟩
  rintro _ _ ⟨i, n, rfl, ⟨i0, i1, hn⟩⟩
  refine br_wp (fun c1 => ?_) (fun c1 => ?_)
  · replace c1 : i < (r.l.length : Int) := by first | simpa only [vd1, vd2, vd3, vd4, vd5, vd6, vd7, reduceCtorEq, Option.some.injEq, vn_rw, va_rw, isNone_f, isNone_t, vi_cell_I, vi_cell_E0, vi_cell_E1, vi_cell_A0, vi_cell_A1, vi_cell_A2, vb_ite, vi_ite, updD] using c1 | (simp only [vd1, vd2, vd3, vd4, vd5, vd6, vd7, reduceCtorEq, Option.some.injEq, vn_rw, va_rw, isNone_f, isNone_t, vi_cell_I, vi_cell_E0, vi_cell_E1, vi_cell_A0, vi_cell_A1, vi_cell_A2, vb_ite, vi_ite, updD] at c1; grind)
    obtain ⟨hl, hg⟩ := hget i0 c1
    have w1 : IntKind.i64.wrap (i + 1) = i + 1 := wrap_id _ (by omega) (by omega)
    refine need_wp (by first | exact ⟨_, _, _, rfl⟩ | (simp only [vd1, vd2, vd3, vd4, vd5, vd6, vd7, reduceCtorEq, Option.some.injEq, vn_rw, va_rw, isNone_f, isNone_t, vi_cell_I, vi_cell_E0, vi_cell_E1, vi_cell_A0, vi_cell_A1, vi_cell_A2, vb_ite, vi_ite, updD, w1]; exact ⟨_, _, _, rfl⟩)) ?_
    refine need_wp (by first | exact rw_row _ _ | (simp only [vd1, vd2, vd3, vd4, vd5, vd6, vd7, reduceCtorEq, Option.some.injEq, vn_rw, va_rw, isNone_f, isNone_t, vi_cell_I, vi_cell_E0, vi_cell_E1, vi_cell_A0, vi_cell_A1, vi_cell_A2, vb_ite, vi_ite, updD, w1]; exact ⟨_, _, rfl⟩)) ?_
    refine need_wp (by simp only [vd1, vd2, vd3, vd4, vd5, vd6, vd7, reduceCtorEq, Option.some.injEq, vn_rw, va_rw, isNone_f, isNone_t, vi_cell_I, vi_cell_E0, vi_cell_E1, vi_cell_A0, vi_cell_A1, vi_cell_A2, vb_ite, vi_ite, updD, w1, List.length_cons, List.length_nil, List.length_append, List.length_set]; first | omega | (grind)) ?_
    refine need_wp (by first | exact ⟨_, _, _, rfl⟩ | (simp only [vd1, vd2, vd3, vd4, vd5, vd6, vd7, reduceCtorEq, Option.some.injEq, vn_rw, va_rw, isNone_f, isNone_t, vi_cell_I, vi_cell_E0, vi_cell_E1, vi_cell_A0, vi_cell_A1, vi_cell_A2, vb_ite, vi_ite, updD, w1]; exact ⟨_, _, _, rfl⟩)) ?_
    refine need_wp (by first | exact rw_row _ _ | (simp only [vd1, vd2, vd3, vd4, vd5, vd6, vd7, reduceCtorEq, Option.some.injEq, vn_rw, va_rw, isNone_f, isNone_t, vi_cell_I, vi_cell_E0, vi_cell_E1, vi_cell_A0, vi_cell_A1, vi_cell_A2, vb_ite, vi_ite, updD, w1]; exact ⟨_, _, rfl⟩)) ?_
    refine need_wp (by first | exact rw_sz' rfl | exact rw_szn (by assumption) (.inr (by omega)) | (simp only [vd1, vd2, vd3, vd4, vd5, vd6, vd7, reduceCtorEq, Option.some.injEq, vn_rw, va_rw, isNone_f, isNone_t, vi_cell_I, vi_cell_E0, vi_cell_E1, vi_cell_A0, vi_cell_A1, vi_cell_A2, vb_ite, vi_ite, updD, w1]; exact rw_szn (by assumption) (.inr (by omega))) | exact rw_szn (by simp [Rw.ok]) (.inr (by omega))) ?_
    refine need_wp (by simp only [vd1, vd2, vd3, vd4, vd5, vd6, vd7, reduceCtorEq, Option.some.injEq, vn_rw, va_rw, isNone_f, isNone_t, vi_cell_I, vi_cell_E0, vi_cell_E1, vi_cell_A0, vi_cell_A1, vi_cell_A2, vb_ite, vi_ite, updD, w1]; exact kind_Re0 (by omega) (by omega)) ?_
    refine need_wp (by simp only [vd1, vd2, vd3, vd4, vd5, vd6, vd7, reduceCtorEq, Option.some.injEq, vn_rw, va_rw, isNone_f, isNone_t, vi_cell_I, vi_cell_E0, vi_cell_E1, vi_cell_A0, vi_cell_A1, vi_cell_A2, vb_ite, vi_ite, updD, w1]; exact kind_Re1 (by omega) (by omega)) ?_
    refine again_wp rfl ⟨(i + 1), (IntKind.i64.wrap (n + (r.get i).2)), by simp only [vd1, vd2, vd3, vd4, vd5, vd6, vd7, reduceCtorEq, Option.some.injEq, vn_rw, va_rw, isNone_f, isNone_t, vi_cell_I, vi_cell_E0, vi_cell_E1, vi_cell_A0, vi_cell_A1, vi_cell_A2, vb_ite, vi_ite, updD, w1], ?_⟩ ?_
    · refine ⟨by omega, by omega, ?_⟩; rw [hn, wrap_add, show (i + 1).toNat = i.toNat + 1 by omega, tot_take hl, ← hg]
    · (try simp only [vd1, vd2, vd3, vd4, vd5, vd6, vd7, reduceCtorEq, Option.some.injEq, vn_rw, va_rw, isNone_f, isNone_t, vi_cell_I, vi_cell_E0, vi_cell_E1, vi_cell_A0, vi_cell_A1, vi_cell_A2, vb_ite, vi_ite, updD, w1]); omega
  · replace c1 : ¬(i < (r.l.length : Int)) := by first | simpa only [vd1, vd2, vd3, vd4, vd5, vd6, vd7, reduceCtorEq, Option.some.injEq, vn_rw, va_rw, isNone_f, isNone_t, vi_cell_I, vi_cell_E0, vi_cell_E1, vi_cell_A0, vi_cell_A1, vi_cell_A2, vb_ite, vi_ite, updD] using c1 | (simp only [vd1, vd2, vd3, vd4, vd5, vd6, vd7, reduceCtorEq, Option.some.injEq, vn_rw, va_rw, isNone_f, isNone_t, vi_cell_I, vi_cell_E0, vi_cell_E1, vi_cell_A0, vi_cell_A1, vi_cell_A2, vb_ite, vi_ite, updD] at c1; grind)
    have hi : i = r.l.length := by omega
    refine pop_wp ?_
    refine ret_wp ?_
    try dsimp only
    rw [hn, hi, Int.toNat_natCast, List.take_length]; rfl
end Go.Proofs.YtnpbhlojkjbabaaK
