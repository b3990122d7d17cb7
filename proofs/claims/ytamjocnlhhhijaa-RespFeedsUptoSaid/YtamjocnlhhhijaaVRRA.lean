import Derived.Test.YtamjocnlhhhijaaVRRp2
import Derived.Test.YtamjocnlhhhijaaVRRt
set_option linter.unusedSimpArgs false
set_option linter.unusedVariables false
set_option linter.unnecessarySimpa false
namespace Go.Proofs.YtamjocnlhhhijaaK
open Go Go.Proofs.YtamjocnlhhhijaaV Go.Proofs Go.Proofs.YtamjocnlhhhijaaK Go.Proofs.YtamjocnlhhhijaaK
theorem hP : Try.prog.follows .mixedOrders = true := rfl
def kPrint (sg : Sig) : Sig × Con := (sg, mkFun (fun x : Int => ([aI x] : List Atom)) in64 (fun n => [aS (prt n)]))
def kP12 (k : Nat) (sg : Sig) : Sig × Con := (sg, mkFun (fun x : Int => ([aI x] : List Atom)) (fun n => pre12 k n ∧ in64 n) (fun n => [aS (prt n)]))
theorem holds_pre {P : Program} {sg : Sig} {α : Type} {enc : α → List Atom} {pre pre' : α → Prop} {f : α → List Atom} (h : holds P (sg, mkFun enc pre f)) (hp : ∀ x, pre' x → pre x) : holds P (sg, mkFun enc pre' f) := by
 refine ⟨h.1, ?_⟩
 rintro args m w hm hg ⟨x, hx, hq⟩
 refine (h.2 args m w hm hg ⟨x, hx, hp x hq⟩).mono fun e w' he => ?_
 obtain ⟨outs, h1, h2, h3, h4, h5⟩ := he
 exact ⟨outs, h1, h2, fun y hy hy2 => h3 y hy (hp y hy2), h4, h5⟩
theorem bytes_one (a : Option Addr) (c : Nat) {x : Int} (h : 0 ≤ x) (h2 : x < 256) : ∃ (z : Nat) (s : ByteArray), (Rw.atom eB ⟨a, c, 1, [x]⟩).2 = .rows z (ofB s) ∧ (ofB s = [] ∨ z = 1) := need_bytes (.inr rfl) (by intro y hy; obtain rfl := List.mem_singleton.1 hy; exact ⟨h, h2⟩)
theorem dstep {d e B C : Int} (h : 0 ≤ d ∧ d ≤ B) (he : e = d / 10) (hC : B / 10 = C) : 0 ≤ e ∧ e ≤ C := by omega
set_option maxHeartbeats 8000000 in
theorem h39 : holds Try.prog (kPrint sg39) := by
 refine fn_holds (l := []) trivial hP rs39 (inj_of (fun l : List Atom => (vi (l.getD 0 atom0).1 : Int)) (fun _ => rfl)) Try.func39 (by kernel_rfl) (c := code Try.f39) (by kernel_rfl) (an := an39) (by kernel_rfl) (pk := pk39) rfl (t := t39) (by kernel_rfl) ?_
 rintro n hn
 refine ⟨by simp [pk39, KindsOk, RK.ok, Rw.atom, Sl.atom], ?_⟩
 unfold t39 t39_49 t39_48 t39_47 t39_46 t39_45 t39_44 t39_43 t39_42 t39_41 t39_40 t39_39 t39_38 t39_37 t39_36 t39_35 t39_34 t39_33 t39_32 t39_31 t39_30 t39_29 t39_28 t39_27 t39_26 t39_25 t39_24 t39_23 t39_22 t39_21 t39_20 t39_19 t39_18 t39_17 t39_16 t39_15 t39_14 t39_13 t39_12 t39_11 t39_10 t39_9 t39_8 t39_7 t39_6 t39_5 t39_4 t39_3 t39_2 t39_1
 unfold in64 at hn
 refine br_wp (fun c1 => ?_) (fun c1 => ?_)
 ·replace c1 : n < 0 := by first | simpa only [vd, reduceCtorEq, ve, updD] using c1 | (simp only [vd, reduceCtorEq, ve, updD] at c1; grind)
  obtain ⟨d0, q0⟩ : ∃ d : Int, d = -n := ⟨_, rfl⟩
  have w0 : IntKind.u64.wrap (0 - IntKind.u64.wrap n) = d0 := by rw [IntKind.wrap_u64, IntKind.wrap_u64]; omega
  have t0 : prt n = ba [45] ++ bd d0 := by rw [prt_neg c1, q0]
  have p0 : 0 ≤ d0 ∧ d0 ≤ 9223372036854775808 := by omega
  obtain ⟨d1, q1⟩ : ∃ d : Int, d = d0 / 10 := ⟨_, rfl⟩
  have p1 : 0 ≤ d1 ∧ d1 ≤ 922337203685477580 := dstep p0 q1 (by decide)
  have w1 : quoD .u64 d0 10 = d1 := by rw [quo10 p0.1 (Int.lt_of_le_of_lt p0.2 (by decide)), q1]
  refine br_wp (fun c2 => ?_) (fun c2 => ?_)
  ·replace c2 : d1 = 0 := by first | simpa only [vd, reduceCtorEq, ve, updD, w0, w1] using c2 | (simp only [vd, reduceCtorEq, ve, updD, w0, w1] at c2; grind)
   have s1 := bd_lt (d := d0) (e := d1) p0.1 q1 c2
   refine ret_wp ?_
   try dsimp only
   have e : ba [45] ++ (cc d0 ++ (⟨#[]⟩ : ByteArray)) = prt n := (by (rw [t0, s1]; try simp only [app_assoc, app_nil])); simp only [vd, reduceCtorEq, ve, updD, w0, w1]; exact congrArg Value.string e
  ·replace c2 : ¬(d1 = 0) := by first | simpa only [vd, reduceCtorEq, ve, updD, w0, w1] using c2 | (simp only [vd, reduceCtorEq, ve, updD, w0, w1] at c2; grind)
   have s1 := bd_ge (d := d0) (e := d1) p0.1 q1 c2
   obtain ⟨d2, q2⟩ : ∃ d : Int, d = d1 / 10 := ⟨_, rfl⟩
   have p2 : 0 ≤ d2 ∧ d2 ≤ 92233720368547758 := dstep p1 q2 (by decide)
   have w2 : quoD .u64 d1 10 = d2 := by rw [quo10 p1.1 (Int.lt_of_le_of_lt p1.2 (by decide)), q2]
   refine br_wp (fun c3 => ?_) (fun c3 => ?_)
   ·replace c3 : d2 = 0 := by first | simpa only [vd, reduceCtorEq, ve, updD, w0, w1, w2] using c3 | (simp only [vd, reduceCtorEq, ve, updD, w0, w1, w2] at c3; grind)
    have s2 := bd_lt (d := d1) (e := d2) p1.1 q2 c3
    refine ret_wp ?_
    try dsimp only
    have e : ba [45] ++ (cc d1 ++ (cc d0 ++ (⟨#[]⟩ : ByteArray))) = prt n := (by (rw [t0, s1, s2]; try simp only [app_assoc, app_nil])); simp only [vd, reduceCtorEq, ve, updD, w0, w1, w2]; exact congrArg Value.string e
   ·replace c3 : ¬(d2 = 0) := by first | simpa only [vd, reduceCtorEq, ve, updD, w0, w1, w2] using c3 | (simp only [vd, reduceCtorEq, ve, updD, w0, w1, w2] at c3; grind)
    have s2 := bd_ge (d := d1) (e := d2) p1.1 q2 c3
    obtain ⟨d3, q3⟩ : ∃ d : Int, d = d2 / 10 := ⟨_, rfl⟩
    have p3 : 0 ≤ d3 ∧ d3 ≤ 9223372036854775 := dstep p2 q3 (by decide)
    have w3 : quoD .u64 d2 10 = d3 := by rw [quo10 p2.1 (Int.lt_of_le_of_lt p2.2 (by decide)), q3]
    refine br_wp (fun c4 => ?_) (fun c4 => ?_)
    ·replace c4 : d3 = 0 := by first | simpa only [vd, reduceCtorEq, ve, updD, w0, w1, w2, w3] using c4 | (simp only [vd, reduceCtorEq, ve, updD, w0, w1, w2, w3] at c4; grind)
     have s3 := bd_lt (d := d2) (e := d3) p2.1 q3 c4
     refine ret_wp ?_
     try dsimp only
     have e : ba [45] ++ (cc d2 ++ (cc d1 ++ (cc d0 ++ (⟨#[]⟩ : ByteArray)))) = prt n := (by (rw [t0, s1, s2, s3]; try simp only [app_assoc, app_nil])); simp only [vd, reduceCtorEq, ve, updD, w0, w1, w2, w3]; exact congrArg Value.string e
    ·replace c4 : ¬(d3 = 0) := by first | simpa only [vd, reduceCtorEq, ve, updD, w0, w1, w2, w3] using c4 | (simp only [vd, reduceCtorEq, ve, updD, w0, w1, w2, w3] at c4; grind)
     have s3 := bd_ge (d := d2) (e := d3) p2.1 q3 c4
     obtain ⟨d4, q4⟩ : ∃ d : Int, d = d3 / 10 := ⟨_, rfl⟩
     have p4 : 0 ≤ d4 ∧ d4 ≤ 922337203685477 := dstep p3 q4 (by decide)
     have w4 : quoD .u64 d3 10 = d4 := by rw [quo10 p3.1 (Int.lt_of_le_of_lt p3.2 (by decide)), q4]
     refine br_wp (fun c5 => ?_) (fun c5 => ?_)
     ·replace c5 : d4 = 0 := by first | simpa only [vd, reduceCtorEq, ve, updD, w0, w1, w2, w3, w4] using c5 | (simp only [vd, reduceCtorEq, ve, updD, w0, w1, w2, w3, w4] at c5; grind)
      have s4 := bd_lt (d := d3) (e := d4) p3.1 q4 c5
      refine ret_wp ?_
      try dsimp only
      have e : ba [45] ++ (cc d3 ++ (cc d2 ++ (cc d1 ++ (cc d0 ++ (⟨#[]⟩ : ByteArray))))) = prt n := (by (rw [t0, s1, s2, s3, s4]; try simp only [app_assoc, app_nil])); simp only [vd, reduceCtorEq, ve, updD, w0, w1, w2, w3, w4]; exact congrArg Value.string e
     ·replace c5 : ¬(d4 = 0) := by first | simpa only [vd, reduceCtorEq, ve, updD, w0, w1, w2, w3, w4] using c5 | (simp only [vd, reduceCtorEq, ve, updD, w0, w1, w2, w3, w4] at c5; grind)
      have s4 := bd_ge (d := d3) (e := d4) p3.1 q4 c5
      obtain ⟨d5, q5⟩ : ∃ d : Int, d = d4 / 10 := ⟨_, rfl⟩
      have p5 : 0 ≤ d5 ∧ d5 ≤ 92233720368547 := dstep p4 q5 (by decide)
      have w5 : quoD .u64 d4 10 = d5 := by rw [quo10 p4.1 (Int.lt_of_le_of_lt p4.2 (by decide)), q5]
      refine br_wp (fun c6 => ?_) (fun c6 => ?_)
      ·replace c6 : d5 = 0 := by first | simpa only [vd, reduceCtorEq, ve, updD, w0, w1, w2, w3, w4, w5] using c6 | (simp only [vd, reduceCtorEq, ve, updD, w0, w1, w2, w3, w4, w5] at c6; grind)
       have s5 := bd_lt (d := d4) (e := d5) p4.1 q5 c6
       refine ret_wp ?_
       try dsimp only
       have e : ba [45] ++ (cc d4 ++ (cc d3 ++ (cc d2 ++ (cc d1 ++ (cc d0 ++ (⟨#[]⟩ : ByteArray)))))) = prt n := (by (rw [t0, s1, s2, s3, s4, s5]; try simp only [app_assoc, app_nil])); simp only [vd, reduceCtorEq, ve, updD, w0, w1, w2, w3, w4, w5]; exact congrArg Value.string e
      ·replace c6 : ¬(d5 = 0) := by first | simpa only [vd, reduceCtorEq, ve, updD, w0, w1, w2, w3, w4, w5] using c6 | (simp only [vd, reduceCtorEq, ve, updD, w0, w1, w2, w3, w4, w5] at c6; grind)
       have s5 := bd_ge (d := d4) (e := d5) p4.1 q5 c6
       obtain ⟨d6, q6⟩ : ∃ d : Int, d = d5 / 10 := ⟨_, rfl⟩
       have p6 : 0 ≤ d6 ∧ d6 ≤ 9223372036854 := dstep p5 q6 (by decide)
       have w6 : quoD .u64 d5 10 = d6 := by rw [quo10 p5.1 (Int.lt_of_le_of_lt p5.2 (by decide)), q6]
       refine br_wp (fun c7 => ?_) (fun c7 => ?_)
       ·replace c7 : d6 = 0 := by first | simpa only [vd, reduceCtorEq, ve, updD, w0, w1, w2, w3, w4, w5, w6] using c7 | (simp only [vd, reduceCtorEq, ve, updD, w0, w1, w2, w3, w4, w5, w6] at c7; grind)
        have s6 := bd_lt (d := d5) (e := d6) p5.1 q6 c7
        refine ret_wp ?_
        try dsimp only
        have e : ba [45] ++ (cc d5 ++ (cc d4 ++ (cc d3 ++ (cc d2 ++ (cc d1 ++ (cc d0 ++ (⟨#[]⟩ : ByteArray))))))) = prt n := (by (rw [t0, s1, s2, s3, s4, s5, s6]; try simp only [app_assoc, app_nil])); simp only [vd, reduceCtorEq, ve, updD, w0, w1, w2, w3, w4, w5, w6]; exact congrArg Value.string e
       ·replace c7 : ¬(d6 = 0) := by first | simpa only [vd, reduceCtorEq, ve, updD, w0, w1, w2, w3, w4, w5, w6] using c7 | (simp only [vd, reduceCtorEq, ve, updD, w0, w1, w2, w3, w4, w5, w6] at c7; grind)
        have s6 := bd_ge (d := d5) (e := d6) p5.1 q6 c7
        obtain ⟨d7, q7⟩ : ∃ d : Int, d = d6 / 10 := ⟨_, rfl⟩
        have p7 : 0 ≤ d7 ∧ d7 ≤ 922337203685 := dstep p6 q7 (by decide)
        have w7 : quoD .u64 d6 10 = d7 := by rw [quo10 p6.1 (Int.lt_of_le_of_lt p6.2 (by decide)), q7]
        refine br_wp (fun c8 => ?_) (fun c8 => ?_)
        ·replace c8 : d7 = 0 := by first | simpa only [vd, reduceCtorEq, ve, updD, w0, w1, w2, w3, w4, w5, w6, w7] using c8 | (simp only [vd, reduceCtorEq, ve, updD, w0, w1, w2, w3, w4, w5, w6, w7] at c8; grind)
         have s7 := bd_lt (d := d6) (e := d7) p6.1 q7 c8
         refine ret_wp ?_
         try dsimp only
         have e : ba [45] ++ (cc d6 ++ (cc d5 ++ (cc d4 ++ (cc d3 ++ (cc d2 ++ (cc d1 ++ (cc d0 ++ (⟨#[]⟩ : ByteArray)))))))) = prt n := (by (rw [t0, s1, s2, s3, s4, s5, s6, s7]; try simp only [app_assoc, app_nil])); simp only [vd, reduceCtorEq, ve, updD, w0, w1, w2, w3, w4, w5, w6, w7]; exact congrArg Value.string e
        ·replace c8 : ¬(d7 = 0) := by first | simpa only [vd, reduceCtorEq, ve, updD, w0, w1, w2, w3, w4, w5, w6, w7] using c8 | (simp only [vd, reduceCtorEq, ve, updD, w0, w1, w2, w3, w4, w5, w6, w7] at c8; grind)
         have s7 := bd_ge (d := d6) (e := d7) p6.1 q7 c8
         obtain ⟨d8, q8⟩ : ∃ d : Int, d = d7 / 10 := ⟨_, rfl⟩
         have p8 : 0 ≤ d8 ∧ d8 ≤ 92233720368 := dstep p7 q8 (by decide)
         have w8 : quoD .u64 d7 10 = d8 := by rw [quo10 p7.1 (Int.lt_of_le_of_lt p7.2 (by decide)), q8]
         refine br_wp (fun c9 => ?_) (fun c9 => ?_)
         ·replace c9 : d8 = 0 := by first | simpa only [vd, reduceCtorEq, ve, updD, w0, w1, w2, w3, w4, w5, w6, w7, w8] using c9 | (simp only [vd, reduceCtorEq, ve, updD, w0, w1, w2, w3, w4, w5, w6, w7, w8] at c9; grind)
          have s8 := bd_lt (d := d7) (e := d8) p7.1 q8 c9
          refine ret_wp ?_
          try dsimp only
          have e : ba [45] ++ (cc d7 ++ (cc d6 ++ (cc d5 ++ (cc d4 ++ (cc d3 ++ (cc d2 ++ (cc d1 ++ (cc d0 ++ (⟨#[]⟩ : ByteArray))))))))) = prt n := (by (rw [t0, s1, s2, s3, s4, s5, s6, s7, s8]; try simp only [app_assoc, app_nil])); simp only [vd, reduceCtorEq, ve, updD, w0, w1, w2, w3, w4, w5, w6, w7, w8]; exact congrArg Value.string e
         ·replace c9 : ¬(d8 = 0) := by first | simpa only [vd, reduceCtorEq, ve, updD, w0, w1, w2, w3, w4, w5, w6, w7, w8] using c9 | (simp only [vd, reduceCtorEq, ve, updD, w0, w1, w2, w3, w4, w5, w6, w7, w8] at c9; grind)
          have s8 := bd_ge (d := d7) (e := d8) p7.1 q8 c9
          obtain ⟨d9, q9⟩ : ∃ d : Int, d = d8 / 10 := ⟨_, rfl⟩
          have p9 : 0 ≤ d9 ∧ d9 ≤ 9223372036 := dstep p8 q9 (by decide)
          have w9 : quoD .u64 d8 10 = d9 := by rw [quo10 p8.1 (Int.lt_of_le_of_lt p8.2 (by decide)), q9]
          refine br_wp (fun c10 => ?_) (fun c10 => ?_)
          ·replace c10 : d9 = 0 := by first | simpa only [vd, reduceCtorEq, ve, updD, w0, w1, w2, w3, w4, w5, w6, w7, w8, w9] using c10 | (simp only [vd, reduceCtorEq, ve, updD, w0, w1, w2, w3, w4, w5, w6, w7, w8, w9] at c10; grind)
           have s9 := bd_lt (d := d8) (e := d9) p8.1 q9 c10
           refine ret_wp ?_
           try dsimp only
           have e : ba [45] ++ (cc d8 ++ (cc d7 ++ (cc d6 ++ (cc d5 ++ (cc d4 ++ (cc d3 ++ (cc d2 ++ (cc d1 ++ (cc d0 ++ (⟨#[]⟩ : ByteArray)))))))))) = prt n := (by (rw [t0, s1, s2, s3, s4, s5, s6, s7, s8, s9]; try simp only [app_assoc, app_nil])); simp only [vd, reduceCtorEq, ve, updD, w0, w1, w2, w3, w4, w5, w6, w7, w8, w9]; exact congrArg Value.string e
          ·replace c10 : ¬(d9 = 0) := by first | simpa only [vd, reduceCtorEq, ve, updD, w0, w1, w2, w3, w4, w5, w6, w7, w8, w9] using c10 | (simp only [vd, reduceCtorEq, ve, updD, w0, w1, w2, w3, w4, w5, w6, w7, w8, w9] at c10; grind)
           have s9 := bd_ge (d := d8) (e := d9) p8.1 q9 c10
           obtain ⟨d10, q10⟩ : ∃ d : Int, d = d9 / 10 := ⟨_, rfl⟩
           have p10 : 0 ≤ d10 ∧ d10 ≤ 922337203 := dstep p9 q10 (by decide)
           have w10 : quoD .u64 d9 10 = d10 := by rw [quo10 p9.1 (Int.lt_of_le_of_lt p9.2 (by decide)), q10]
           refine br_wp (fun c11 => ?_) (fun c11 => ?_)
           ·replace c11 : d10 = 0 := by first | simpa only [vd, reduceCtorEq, ve, updD, w0, w1, w2, w3, w4, w5, w6, w7, w8, w9, w10] using c11 | (simp only [vd, reduceCtorEq, ve, updD, w0, w1, w2, w3, w4, w5, w6, w7, w8, w9, w10] at c11; grind)
            have s10 := bd_lt (d := d9) (e := d10) p9.1 q10 c11
            refine ret_wp ?_
            try dsimp only
            have e : ba [45] ++ (cc d9 ++ (cc d8 ++ (cc d7 ++ (cc d6 ++ (cc d5 ++ (cc d4 ++ (cc d3 ++ (cc d2 ++ (cc d1 ++ (cc d0 ++ (⟨#[]⟩ : ByteArray))))))))))) = prt n := (by (rw [t0, s1, s2, s3, s4, s5, s6, s7, s8, s9, s10]; try simp only [app_assoc, app_nil])); simp only [vd, reduceCtorEq, ve, updD, w0, w1, w2, w3, w4, w5, w6, w7, w8, w9, w10]; exact congrArg Value.string e
           ·replace c11 : ¬(d10 = 0) := by first | simpa only [vd, reduceCtorEq, ve, updD, w0, w1, w2, w3, w4, w5, w6, w7, w8, w9, w10] using c11 | (simp only [vd, reduceCtorEq, ve, updD, w0, w1, w2, w3, w4, w5, w6, w7, w8, w9, w10] at c11; grind)
            have s10 := bd_ge (d := d9) (e := d10) p9.1 q10 c11
            obtain ⟨d11, q11⟩ : ∃ d : Int, d = d10 / 10 := ⟨_, rfl⟩
            have p11 : 0 ≤ d11 ∧ d11 ≤ 92233720 := dstep p10 q11 (by decide)
            have w11 : quoD .u64 d10 10 = d11 := by rw [quo10 p10.1 (Int.lt_of_le_of_lt p10.2 (by decide)), q11]
            refine br_wp (fun c12 => ?_) (fun c12 => ?_)
            ·replace c12 : d11 = 0 := by first | simpa only [vd, reduceCtorEq, ve, updD, w0, w1, w2, w3, w4, w5, w6, w7, w8, w9, w10, w11] using c12 | (simp only [vd, reduceCtorEq, ve, updD, w0, w1, w2, w3, w4, w5, w6, w7, w8, w9, w10, w11] at c12; grind)
             have s11 := bd_lt (d := d10) (e := d11) p10.1 q11 c12
             refine ret_wp ?_
             try dsimp only
             have e : ba [45] ++ (cc d10 ++ (cc d9 ++ (cc d8 ++ (cc d7 ++ (cc d6 ++ (cc d5 ++ (cc d4 ++ (cc d3 ++ (cc d2 ++ (cc d1 ++ (cc d0 ++ (⟨#[]⟩ : ByteArray)))))))))))) = prt n := (by (rw [t0, s1, s2, s3, s4, s5, s6, s7, s8, s9, s10, s11]; try simp only [app_assoc, app_nil])); simp only [vd, reduceCtorEq, ve, updD, w0, w1, w2, w3, w4, w5, w6, w7, w8, w9, w10, w11]; exact congrArg Value.string e
            ·replace c12 : ¬(d11 = 0) := by first | simpa only [vd, reduceCtorEq, ve, updD, w0, w1, w2, w3, w4, w5, w6, w7, w8, w9, w10, w11] using c12 | (simp only [vd, reduceCtorEq, ve, updD, w0, w1, w2, w3, w4, w5, w6, w7, w8, w9, w10, w11] at c12; grind)
             have s11 := bd_ge (d := d10) (e := d11) p10.1 q11 c12
             obtain ⟨d12, q12⟩ : ∃ d : Int, d = d11 / 10 := ⟨_, rfl⟩
             have p12 : 0 ≤ d12 ∧ d12 ≤ 9223372 := dstep p11 q12 (by decide)
             have w12 : quoD .u64 d11 10 = d12 := by rw [quo10 p11.1 (Int.lt_of_le_of_lt p11.2 (by decide)), q12]
             refine br_wp (fun c13 => ?_) (fun c13 => ?_)
             ·replace c13 : d12 = 0 := by first | simpa only [vd, reduceCtorEq, ve, updD, w0, w1, w2, w3, w4, w5, w6, w7, w8, w9, w10, w11, w12] using c13 | (simp only [vd, reduceCtorEq, ve, updD, w0, w1, w2, w3, w4, w5, w6, w7, w8, w9, w10, w11, w12] at c13; grind)
              have s12 := bd_lt (d := d11) (e := d12) p11.1 q12 c13
              refine ret_wp ?_
              try dsimp only
              have e : ba [45] ++ (cc d11 ++ (cc d10 ++ (cc d9 ++ (cc d8 ++ (cc d7 ++ (cc d6 ++ (cc d5 ++ (cc d4 ++ (cc d3 ++ (cc d2 ++ (cc d1 ++ (cc d0 ++ (⟨#[]⟩ : ByteArray))))))))))))) = prt n := (by (rw [t0, s1, s2, s3, s4, s5, s6, s7, s8, s9, s10, s11, s12]; try simp only [app_assoc, app_nil])); simp only [vd, reduceCtorEq, ve, updD, w0, w1, w2, w3, w4, w5, w6, w7, w8, w9, w10, w11, w12]; exact congrArg Value.string e
             ·replace c13 : ¬(d12 = 0) := by first | simpa only [vd, reduceCtorEq, ve, updD, w0, w1, w2, w3, w4, w5, w6, w7, w8, w9, w10, w11, w12] using c13 | (simp only [vd, reduceCtorEq, ve, updD, w0, w1, w2, w3, w4, w5, w6, w7, w8, w9, w10, w11, w12] at c13; grind)
              have s12 := bd_ge (d := d11) (e := d12) p11.1 q12 c13
              obtain ⟨d13, q13⟩ : ∃ d : Int, d = d12 / 10 := ⟨_, rfl⟩
              have p13 : 0 ≤ d13 ∧ d13 ≤ 922337 := dstep p12 q13 (by decide)
              have w13 : quoD .u64 d12 10 = d13 := by rw [quo10 p12.1 (Int.lt_of_le_of_lt p12.2 (by decide)), q13]
              refine br_wp (fun c14 => ?_) (fun c14 => ?_)
              ·replace c14 : d13 = 0 := by first | simpa only [vd, reduceCtorEq, ve, updD, w0, w1, w2, w3, w4, w5, w6, w7, w8, w9, w10, w11, w12, w13] using c14 | (simp only [vd, reduceCtorEq, ve, updD, w0, w1, w2, w3, w4, w5, w6, w7, w8, w9, w10, w11, w12, w13] at c14; grind)
               have s13 := bd_lt (d := d12) (e := d13) p12.1 q13 c14
               refine ret_wp ?_
               try dsimp only
               have e : ba [45] ++ (cc d12 ++ (cc d11 ++ (cc d10 ++ (cc d9 ++ (cc d8 ++ (cc d7 ++ (cc d6 ++ (cc d5 ++ (cc d4 ++ (cc d3 ++ (cc d2 ++ (cc d1 ++ (cc d0 ++ (⟨#[]⟩ : ByteArray)))))))))))))) = prt n := (by (rw [t0, s1, s2, s3, s4, s5, s6, s7, s8, s9, s10, s11, s12, s13]; try simp only [app_assoc, app_nil])); simp only [vd, reduceCtorEq, ve, updD, w0, w1, w2, w3, w4, w5, w6, w7, w8, w9, w10, w11, w12, w13]; exact congrArg Value.string e
              ·replace c14 : ¬(d13 = 0) := by first | simpa only [vd, reduceCtorEq, ve, updD, w0, w1, w2, w3, w4, w5, w6, w7, w8, w9, w10, w11, w12, w13] using c14 | (simp only [vd, reduceCtorEq, ve, updD, w0, w1, w2, w3, w4, w5, w6, w7, w8, w9, w10, w11, w12, w13] at c14; grind)
               have s13 := bd_ge (d := d12) (e := d13) p12.1 q13 c14
               obtain ⟨d14, q14⟩ : ∃ d : Int, d = d13 / 10 := ⟨_, rfl⟩
               have p14 : 0 ≤ d14 ∧ d14 ≤ 92233 := dstep p13 q14 (by decide)
               have w14 : quoD .u64 d13 10 = d14 := by rw [quo10 p13.1 (Int.lt_of_le_of_lt p13.2 (by decide)), q14]
               refine br_wp (fun c15 => ?_) (fun c15 => ?_)
               ·replace c15 : d14 = 0 := by first | simpa only [vd, reduceCtorEq, ve, updD, w0, w1, w2, w3, w4, w5, w6, w7, w8, w9, w10, w11, w12, w13, w14] using c15 | (simp only [vd, reduceCtorEq, ve, updD, w0, w1, w2, w3, w4, w5, w6, w7, w8, w9, w10, w11, w12, w13, w14] at c15; grind)
                have s14 := bd_lt (d := d13) (e := d14) p13.1 q14 c15
                refine ret_wp ?_
                try dsimp only
                have e : ba [45] ++ (cc d13 ++ (cc d12 ++ (cc d11 ++ (cc d10 ++ (cc d9 ++ (cc d8 ++ (cc d7 ++ (cc d6 ++ (cc d5 ++ (cc d4 ++ (cc d3 ++ (cc d2 ++ (cc d1 ++ (cc d0 ++ (⟨#[]⟩ : ByteArray))))))))))))))) = prt n := (by (rw [t0, s1, s2, s3, s4, s5, s6, s7, s8, s9, s10, s11, s12, s13, s14]; try simp only [app_assoc, app_nil])); simp only [vd, reduceCtorEq, ve, updD, w0, w1, w2, w3, w4, w5, w6, w7, w8, w9, w10, w11, w12, w13, w14]; exact congrArg Value.string e
               ·replace c15 : ¬(d14 = 0) := by first | simpa only [vd, reduceCtorEq, ve, updD, w0, w1, w2, w3, w4, w5, w6, w7, w8, w9, w10, w11, w12, w13, w14] using c15 | (simp only [vd, reduceCtorEq, ve, updD, w0, w1, w2, w3, w4, w5, w6, w7, w8, w9, w10, w11, w12, w13, w14] at c15; grind)
                have s14 := bd_ge (d := d13) (e := d14) p13.1 q14 c15
                obtain ⟨d15, q15⟩ : ∃ d : Int, d = d14 / 10 := ⟨_, rfl⟩
                have p15 : 0 ≤ d15 ∧ d15 ≤ 9223 := dstep p14 q15 (by decide)
                have w15 : quoD .u64 d14 10 = d15 := by rw [quo10 p14.1 (Int.lt_of_le_of_lt p14.2 (by decide)), q15]
                refine br_wp (fun c16 => ?_) (fun c16 => ?_)
                ·replace c16 : d15 = 0 := by first | simpa only [vd, reduceCtorEq, ve, updD, w0, w1, w2, w3, w4, w5, w6, w7, w8, w9, w10, w11, w12, w13, w14, w15] using c16 | (simp only [vd, reduceCtorEq, ve, updD, w0, w1, w2, w3, w4, w5, w6, w7, w8, w9, w10, w11, w12, w13, w14, w15] at c16; grind)
                 have s15 := bd_lt (d := d14) (e := d15) p14.1 q15 c16
                 refine ret_wp ?_
                 try dsimp only
                 have e : ba [45] ++ (cc d14 ++ (cc d13 ++ (cc d12 ++ (cc d11 ++ (cc d10 ++ (cc d9 ++ (cc d8 ++ (cc d7 ++ (cc d6 ++ (cc d5 ++ (cc d4 ++ (cc d3 ++ (cc d2 ++ (cc d1 ++ (cc d0 ++ (⟨#[]⟩ : ByteArray)))))))))))))))) = prt n := (by (rw [t0, s1, s2, s3, s4, s5, s6, s7, s8, s9, s10, s11, s12, s13, s14, s15]; try simp only [app_assoc, app_nil])); simp only [vd, reduceCtorEq, ve, updD, w0, w1, w2, w3, w4, w5, w6, w7, w8, w9, w10, w11, w12, w13, w14, w15]; exact congrArg Value.string e
                ·replace c16 : ¬(d15 = 0) := by first | simpa only [vd, reduceCtorEq, ve, updD, w0, w1, w2, w3, w4, w5, w6, w7, w8, w9, w10, w11, w12, w13, w14, w15] using c16 | (simp only [vd, reduceCtorEq, ve, updD, w0, w1, w2, w3, w4, w5, w6, w7, w8, w9, w10, w11, w12, w13, w14, w15] at c16; grind)
                 have s15 := bd_ge (d := d14) (e := d15) p14.1 q15 c16
                 obtain ⟨d16, q16⟩ : ∃ d : Int, d = d15 / 10 := ⟨_, rfl⟩
                 have p16 : 0 ≤ d16 ∧ d16 ≤ 922 := dstep p15 q16 (by decide)
                 have w16 : quoD .u64 d15 10 = d16 := by rw [quo10 p15.1 (Int.lt_of_le_of_lt p15.2 (by decide)), q16]
                 refine br_wp (fun c17 => ?_) (fun c17 => ?_)
                 ·replace c17 : d16 = 0 := by first | simpa only [vd, reduceCtorEq, ve, updD, w0, w1, w2, w3, w4, w5, w6, w7, w8, w9, w10, w11, w12, w13, w14, w15, w16] using c17 | (simp only [vd, reduceCtorEq, ve, updD, w0, w1, w2, w3, w4, w5, w6, w7, w8, w9, w10, w11, w12, w13, w14, w15, w16] at c17; grind)
                  have s16 := bd_lt (d := d15) (e := d16) p15.1 q16 c17
                  refine ret_wp ?_
                  try dsimp only
                  have e : ba [45] ++ (cc d15 ++ (cc d14 ++ (cc d13 ++ (cc d12 ++ (cc d11 ++ (cc d10 ++ (cc d9 ++ (cc d8 ++ (cc d7 ++ (cc d6 ++ (cc d5 ++ (cc d4 ++ (cc d3 ++ (cc d2 ++ (cc d1 ++ (cc d0 ++ (⟨#[]⟩ : ByteArray))))))))))))))))) = prt n := (by (rw [t0, s1, s2, s3, s4, s5, s6, s7, s8, s9, s10, s11, s12, s13, s14, s15, s16]; try simp only [app_assoc, app_nil])); simp only [vd, reduceCtorEq, ve, updD, w0, w1, w2, w3, w4, w5, w6, w7, w8, w9, w10, w11, w12, w13, w14, w15, w16]; exact congrArg Value.string e
                 ·replace c17 : ¬(d16 = 0) := by first | simpa only [vd, reduceCtorEq, ve, updD, w0, w1, w2, w3, w4, w5, w6, w7, w8, w9, w10, w11, w12, w13, w14, w15, w16] using c17 | (simp only [vd, reduceCtorEq, ve, updD, w0, w1, w2, w3, w4, w5, w6, w7, w8, w9, w10, w11, w12, w13, w14, w15, w16] at c17; grind)
                  have s16 := bd_ge (d := d15) (e := d16) p15.1 q16 c17
                  obtain ⟨d17, q17⟩ : ∃ d : Int, d = d16 / 10 := ⟨_, rfl⟩
                  have p17 : 0 ≤ d17 ∧ d17 ≤ 92 := dstep p16 q17 (by decide)
                  have w17 : quoD .u64 d16 10 = d17 := by rw [quo10 p16.1 (Int.lt_of_le_of_lt p16.2 (by decide)), q17]
                  refine br_wp (fun c18 => ?_) (fun c18 => ?_)
                  ·replace c18 : d17 = 0 := by first | simpa only [vd, reduceCtorEq, ve, updD, w0, w1, w2, w3, w4, w5, w6, w7, w8, w9, w10, w11, w12, w13, w14, w15, w16, w17] using c18 | (simp only [vd, reduceCtorEq, ve, updD, w0, w1, w2, w3, w4, w5, w6, w7, w8, w9, w10, w11, w12, w13, w14, w15, w16, w17] at c18; grind)
                   have s17 := bd_lt (d := d16) (e := d17) p16.1 q17 c18
                   refine ret_wp ?_
                   try dsimp only
                   have e : ba [45] ++ (cc d16 ++ (cc d15 ++ (cc d14 ++ (cc d13 ++ (cc d12 ++ (cc d11 ++ (cc d10 ++ (cc d9 ++ (cc d8 ++ (cc d7 ++ (cc d6 ++ (cc d5 ++ (cc d4 ++ (cc d3 ++ (cc d2 ++ (cc d1 ++ (cc d0 ++ (⟨#[]⟩ : ByteArray)))))))))))))))))) = prt n := (by (rw [t0, s1, s2, s3, s4, s5, s6, s7, s8, s9, s10, s11, s12, s13, s14, s15, s16, s17]; try simp only [app_assoc, app_nil])); simp only [vd, reduceCtorEq, ve, updD, w0, w1, w2, w3, w4, w5, w6, w7, w8, w9, w10, w11, w12, w13, w14, w15, w16, w17]; exact congrArg Value.string e
                  ·replace c18 : ¬(d17 = 0) := by first | simpa only [vd, reduceCtorEq, ve, updD, w0, w1, w2, w3, w4, w5, w6, w7, w8, w9, w10, w11, w12, w13, w14, w15, w16, w17] using c18 | (simp only [vd, reduceCtorEq, ve, updD, w0, w1, w2, w3, w4, w5, w6, w7, w8, w9, w10, w11, w12, w13, w14, w15, w16, w17] at c18; grind)
                   have s17 := bd_ge (d := d16) (e := d17) p16.1 q17 c18
                   obtain ⟨d18, q18⟩ : ∃ d : Int, d = d17 / 10 := ⟨_, rfl⟩
                   have p18 : 0 ≤ d18 ∧ d18 ≤ 9 := dstep p17 q18 (by decide)
                   have w18 : quoD .u64 d17 10 = d18 := by rw [quo10 p17.1 (Int.lt_of_le_of_lt p17.2 (by decide)), q18]
                   refine br_wp (fun c19 => ?_) (fun c19 => ?_)
                   ·replace c19 : d18 = 0 := by first | simpa only [vd, reduceCtorEq, ve, updD, w0, w1, w2, w3, w4, w5, w6, w7, w8, w9, w10, w11, w12, w13, w14, w15, w16, w17, w18] using c19 | (simp only [vd, reduceCtorEq, ve, updD, w0, w1, w2, w3, w4, w5, w6, w7, w8, w9, w10, w11, w12, w13, w14, w15, w16, w17, w18] at c19; grind)
                    have s18 := bd_lt (d := d17) (e := d18) p17.1 q18 c19
                    refine ret_wp ?_
                    try dsimp only
                    have e : ba [45] ++ (cc d17 ++ (cc d16 ++ (cc d15 ++ (cc d14 ++ (cc d13 ++ (cc d12 ++ (cc d11 ++ (cc d10 ++ (cc d9 ++ (cc d8 ++ (cc d7 ++ (cc d6 ++ (cc d5 ++ (cc d4 ++ (cc d3 ++ (cc d2 ++ (cc d1 ++ (cc d0 ++ (⟨#[]⟩ : ByteArray))))))))))))))))))) = prt n := (by (rw [t0, s1, s2, s3, s4, s5, s6, s7, s8, s9, s10, s11, s12, s13, s14, s15, s16, s17, s18]; try simp only [app_assoc, app_nil])); simp only [vd, reduceCtorEq, ve, updD, w0, w1, w2, w3, w4, w5, w6, w7, w8, w9, w10, w11, w12, w13, w14, w15, w16, w17, w18]; exact congrArg Value.string e
                   ·replace c19 : ¬(d18 = 0) := by first | simpa only [vd, reduceCtorEq, ve, updD, w0, w1, w2, w3, w4, w5, w6, w7, w8, w9, w10, w11, w12, w13, w14, w15, w16, w17, w18] using c19 | (simp only [vd, reduceCtorEq, ve, updD, w0, w1, w2, w3, w4, w5, w6, w7, w8, w9, w10, w11, w12, w13, w14, w15, w16, w17, w18] at c19; grind)
                    have s18 := bd_ge (d := d17) (e := d18) p17.1 q18 c19
                    obtain ⟨d19, q19⟩ : ∃ d : Int, d = d18 / 10 := ⟨_, rfl⟩
                    have p19 : 0 ≤ d19 ∧ d19 ≤ 0 := dstep p18 q19 (by decide)
                    have w19 : quoD .u64 d18 10 = d19 := by rw [quo10 p18.1 (Int.lt_of_le_of_lt p18.2 (by decide)), q19]
                    refine br_wp (fun c20 => ?_) (fun c20 => ?_)
                    ·replace c20 : d19 = 0 := by first | simpa only [vd, reduceCtorEq, ve, updD, w0, w1, w2, w3, w4, w5, w6, w7, w8, w9, w10, w11, w12, w13, w14, w15, w16, w17, w18, w19] using c20 | (simp only [vd, reduceCtorEq, ve, updD, w0, w1, w2, w3, w4, w5, w6, w7, w8, w9, w10, w11, w12, w13, w14, w15, w16, w17, w18, w19] at c20; grind)
                     have s19 := bd_lt (d := d18) (e := d19) p18.1 q19 c20
                     refine ret_wp ?_
                     try dsimp only
                     have e : ba [45] ++ (cc d18 ++ (cc d17 ++ (cc d16 ++ (cc d15 ++ (cc d14 ++ (cc d13 ++ (cc d12 ++ (cc d11 ++ (cc d10 ++ (cc d9 ++ (cc d8 ++ (cc d7 ++ (cc d6 ++ (cc d5 ++ (cc d4 ++ (cc d3 ++ (cc d2 ++ (cc d1 ++ (cc d0 ++ (⟨#[]⟩ : ByteArray)))))))))))))))))))) = prt n := (by (rw [t0, s1, s2, s3, s4, s5, s6, s7, s8, s9, s10, s11, s12, s13, s14, s15, s16, s17, s18, s19]; try simp only [app_assoc, app_nil])); simp only [vd, reduceCtorEq, ve, updD, w0, w1, w2, w3, w4, w5, w6, w7, w8, w9, w10, w11, w12, w13, w14, w15, w16, w17, w18, w19]; exact congrArg Value.string e
                    ·replace c20 : ¬(d19 = 0) := by first | simpa only [vd, reduceCtorEq, ve, updD, w0, w1, w2, w3, w4, w5, w6, w7, w8, w9, w10, w11, w12, w13, w14, w15, w16, w17, w18, w19] using c20 | (simp only [vd, reduceCtorEq, ve, updD, w0, w1, w2, w3, w4, w5, w6, w7, w8, w9, w10, w11, w12, w13, w14, w15, w16, w17, w18, w19] at c20; grind)
                     exfalso; exact c20 (Int.le_antisymm p19.2 p19.1)
 ·replace c1 : ¬(n < 0) := by first | simpa only [vd, reduceCtorEq, ve, updD] using c1 | (simp only [vd, reduceCtorEq, ve, updD] at c1; grind)
  obtain ⟨d0, q0⟩ : ∃ d : Int, d = n := ⟨_, rfl⟩
  have w0 : IntKind.u64.wrap n = d0 := by rw [IntKind.wrap_u64]; omega
  have t0 : prt n = bd d0 := by rw [prt_pos c1, q0]
  have p0 : 0 ≤ d0 ∧ d0 ≤ 9223372036854775808 := by omega
  obtain ⟨d1, q1⟩ : ∃ d : Int, d = d0 / 10 := ⟨_, rfl⟩
  have p1 : 0 ≤ d1 ∧ d1 ≤ 922337203685477580 := dstep p0 q1 (by decide)
  have w1 : quoD .u64 d0 10 = d1 := by rw [quo10 p0.1 (Int.lt_of_le_of_lt p0.2 (by decide)), q1]
  refine br_wp (fun c22 => ?_) (fun c22 => ?_)
  ·replace c22 : d1 = 0 := by first | simpa only [vd, reduceCtorEq, ve, updD, w0, w1] using c22 | (simp only [vd, reduceCtorEq, ve, updD, w0, w1] at c22; grind)
   have s1 := bd_lt (d := d0) (e := d1) p0.1 q1 c22
   refine ret_wp ?_
   try dsimp only
   have e : cc d0 ++ (⟨#[]⟩ : ByteArray) = prt n := (by (rw [t0, s1]; try simp only [app_assoc, app_nil])); simp only [vd, reduceCtorEq, ve, updD, w0, w1]; exact congrArg Value.string e
  ·replace c22 : ¬(d1 = 0) := by first | simpa only [vd, reduceCtorEq, ve, updD, w0, w1] using c22 | (simp only [vd, reduceCtorEq, ve, updD, w0, w1] at c22; grind)
   have s1 := bd_ge (d := d0) (e := d1) p0.1 q1 c22
   obtain ⟨d2, q2⟩ : ∃ d : Int, d = d1 / 10 := ⟨_, rfl⟩
   have p2 : 0 ≤ d2 ∧ d2 ≤ 92233720368547758 := dstep p1 q2 (by decide)
   have w2 : quoD .u64 d1 10 = d2 := by rw [quo10 p1.1 (Int.lt_of_le_of_lt p1.2 (by decide)), q2]
   refine br_wp (fun c23 => ?_) (fun c23 => ?_)
   ·replace c23 : d2 = 0 := by first | simpa only [vd, reduceCtorEq, ve, updD, w0, w1, w2] using c23 | (simp only [vd, reduceCtorEq, ve, updD, w0, w1, w2] at c23; grind)
    have s2 := bd_lt (d := d1) (e := d2) p1.1 q2 c23
    refine ret_wp ?_
    try dsimp only
    have e : cc d1 ++ (cc d0 ++ (⟨#[]⟩ : ByteArray)) = prt n := (by (rw [t0, s1, s2]; try simp only [app_assoc, app_nil])); simp only [vd, reduceCtorEq, ve, updD, w0, w1, w2]; exact congrArg Value.string e
   ·replace c23 : ¬(d2 = 0) := by first | simpa only [vd, reduceCtorEq, ve, updD, w0, w1, w2] using c23 | (simp only [vd, reduceCtorEq, ve, updD, w0, w1, w2] at c23; grind)
    have s2 := bd_ge (d := d1) (e := d2) p1.1 q2 c23
    obtain ⟨d3, q3⟩ : ∃ d : Int, d = d2 / 10 := ⟨_, rfl⟩
    have p3 : 0 ≤ d3 ∧ d3 ≤ 9223372036854775 := dstep p2 q3 (by decide)
    have w3 : quoD .u64 d2 10 = d3 := by rw [quo10 p2.1 (Int.lt_of_le_of_lt p2.2 (by decide)), q3]
    refine br_wp (fun c24 => ?_) (fun c24 => ?_)
    ·replace c24 : d3 = 0 := by first | simpa only [vd, reduceCtorEq, ve, updD, w0, w1, w2, w3] using c24 | (simp only [vd, reduceCtorEq, ve, updD, w0, w1, w2, w3] at c24; grind)
     have s3 := bd_lt (d := d2) (e := d3) p2.1 q3 c24
     refine ret_wp ?_
     try dsimp only
     have e : cc d2 ++ (cc d1 ++ (cc d0 ++ (⟨#[]⟩ : ByteArray))) = prt n := (by (rw [t0, s1, s2, s3]; try simp only [app_assoc, app_nil])); simp only [vd, reduceCtorEq, ve, updD, w0, w1, w2, w3]; exact congrArg Value.string e
    ·replace c24 : ¬(d3 = 0) := by first | simpa only [vd, reduceCtorEq, ve, updD, w0, w1, w2, w3] using c24 | (simp only [vd, reduceCtorEq, ve, updD, w0, w1, w2, w3] at c24; grind)
     have s3 := bd_ge (d := d2) (e := d3) p2.1 q3 c24
     obtain ⟨d4, q4⟩ : ∃ d : Int, d = d3 / 10 := ⟨_, rfl⟩
     have p4 : 0 ≤ d4 ∧ d4 ≤ 922337203685477 := dstep p3 q4 (by decide)
     have w4 : quoD .u64 d3 10 = d4 := by rw [quo10 p3.1 (Int.lt_of_le_of_lt p3.2 (by decide)), q4]
     refine br_wp (fun c25 => ?_) (fun c25 => ?_)
     ·replace c25 : d4 = 0 := by first | simpa only [vd, reduceCtorEq, ve, updD, w0, w1, w2, w3, w4] using c25 | (simp only [vd, reduceCtorEq, ve, updD, w0, w1, w2, w3, w4] at c25; grind)
      have s4 := bd_lt (d := d3) (e := d4) p3.1 q4 c25
      refine ret_wp ?_
      try dsimp only
      have e : cc d3 ++ (cc d2 ++ (cc d1 ++ (cc d0 ++ (⟨#[]⟩ : ByteArray)))) = prt n := (by (rw [t0, s1, s2, s3, s4]; try simp only [app_assoc, app_nil])); simp only [vd, reduceCtorEq, ve, updD, w0, w1, w2, w3, w4]; exact congrArg Value.string e
     ·replace c25 : ¬(d4 = 0) := by first | simpa only [vd, reduceCtorEq, ve, updD, w0, w1, w2, w3, w4] using c25 | (simp only [vd, reduceCtorEq, ve, updD, w0, w1, w2, w3, w4] at c25; grind)
      have s4 := bd_ge (d := d3) (e := d4) p3.1 q4 c25
      obtain ⟨d5, q5⟩ : ∃ d : Int, d = d4 / 10 := ⟨_, rfl⟩
      have p5 : 0 ≤ d5 ∧ d5 ≤ 92233720368547 := dstep p4 q5 (by decide)
      have w5 : quoD .u64 d4 10 = d5 := by rw [quo10 p4.1 (Int.lt_of_le_of_lt p4.2 (by decide)), q5]
      refine br_wp (fun c26 => ?_) (fun c26 => ?_)
      ·replace c26 : d5 = 0 := by first | simpa only [vd, reduceCtorEq, ve, updD, w0, w1, w2, w3, w4, w5] using c26 | (simp only [vd, reduceCtorEq, ve, updD, w0, w1, w2, w3, w4, w5] at c26; grind)
       have s5 := bd_lt (d := d4) (e := d5) p4.1 q5 c26
       refine ret_wp ?_
       try dsimp only
       have e : cc d4 ++ (cc d3 ++ (cc d2 ++ (cc d1 ++ (cc d0 ++ (⟨#[]⟩ : ByteArray))))) = prt n := (by (rw [t0, s1, s2, s3, s4, s5]; try simp only [app_assoc, app_nil])); simp only [vd, reduceCtorEq, ve, updD, w0, w1, w2, w3, w4, w5]; exact congrArg Value.string e
      ·replace c26 : ¬(d5 = 0) := by first | simpa only [vd, reduceCtorEq, ve, updD, w0, w1, w2, w3, w4, w5] using c26 | (simp only [vd, reduceCtorEq, ve, updD, w0, w1, w2, w3, w4, w5] at c26; grind)
       have s5 := bd_ge (d := d4) (e := d5) p4.1 q5 c26
       obtain ⟨d6, q6⟩ : ∃ d : Int, d = d5 / 10 := ⟨_, rfl⟩
       have p6 : 0 ≤ d6 ∧ d6 ≤ 9223372036854 := dstep p5 q6 (by decide)
       have w6 : quoD .u64 d5 10 = d6 := by rw [quo10 p5.1 (Int.lt_of_le_of_lt p5.2 (by decide)), q6]
       refine br_wp (fun c27 => ?_) (fun c27 => ?_)
       ·replace c27 : d6 = 0 := by first | simpa only [vd, reduceCtorEq, ve, updD, w0, w1, w2, w3, w4, w5, w6] using c27 | (simp only [vd, reduceCtorEq, ve, updD, w0, w1, w2, w3, w4, w5, w6] at c27; grind)
        have s6 := bd_lt (d := d5) (e := d6) p5.1 q6 c27
        refine ret_wp ?_
        try dsimp only
        have e : cc d5 ++ (cc d4 ++ (cc d3 ++ (cc d2 ++ (cc d1 ++ (cc d0 ++ (⟨#[]⟩ : ByteArray)))))) = prt n := (by (rw [t0, s1, s2, s3, s4, s5, s6]; try simp only [app_assoc, app_nil])); simp only [vd, reduceCtorEq, ve, updD, w0, w1, w2, w3, w4, w5, w6]; exact congrArg Value.string e
       ·replace c27 : ¬(d6 = 0) := by first | simpa only [vd, reduceCtorEq, ve, updD, w0, w1, w2, w3, w4, w5, w6] using c27 | (simp only [vd, reduceCtorEq, ve, updD, w0, w1, w2, w3, w4, w5, w6] at c27; grind)
        have s6 := bd_ge (d := d5) (e := d6) p5.1 q6 c27
        obtain ⟨d7, q7⟩ : ∃ d : Int, d = d6 / 10 := ⟨_, rfl⟩
        have p7 : 0 ≤ d7 ∧ d7 ≤ 922337203685 := dstep p6 q7 (by decide)
        have w7 : quoD .u64 d6 10 = d7 := by rw [quo10 p6.1 (Int.lt_of_le_of_lt p6.2 (by decide)), q7]
        refine br_wp (fun c28 => ?_) (fun c28 => ?_)
        ·replace c28 : d7 = 0 := by first | simpa only [vd, reduceCtorEq, ve, updD, w0, w1, w2, w3, w4, w5, w6, w7] using c28 | (simp only [vd, reduceCtorEq, ve, updD, w0, w1, w2, w3, w4, w5, w6, w7] at c28; grind)
         have s7 := bd_lt (d := d6) (e := d7) p6.1 q7 c28
         refine ret_wp ?_
         try dsimp only
         have e : cc d6 ++ (cc d5 ++ (cc d4 ++ (cc d3 ++ (cc d2 ++ (cc d1 ++ (cc d0 ++ (⟨#[]⟩ : ByteArray))))))) = prt n := (by (rw [t0, s1, s2, s3, s4, s5, s6, s7]; try simp only [app_assoc, app_nil])); simp only [vd, reduceCtorEq, ve, updD, w0, w1, w2, w3, w4, w5, w6, w7]; exact congrArg Value.string e
        ·replace c28 : ¬(d7 = 0) := by first | simpa only [vd, reduceCtorEq, ve, updD, w0, w1, w2, w3, w4, w5, w6, w7] using c28 | (simp only [vd, reduceCtorEq, ve, updD, w0, w1, w2, w3, w4, w5, w6, w7] at c28; grind)
         have s7 := bd_ge (d := d6) (e := d7) p6.1 q7 c28
         obtain ⟨d8, q8⟩ : ∃ d : Int, d = d7 / 10 := ⟨_, rfl⟩
         have p8 : 0 ≤ d8 ∧ d8 ≤ 92233720368 := dstep p7 q8 (by decide)
         have w8 : quoD .u64 d7 10 = d8 := by rw [quo10 p7.1 (Int.lt_of_le_of_lt p7.2 (by decide)), q8]
         refine br_wp (fun c29 => ?_) (fun c29 => ?_)
         ·replace c29 : d8 = 0 := by first | simpa only [vd, reduceCtorEq, ve, updD, w0, w1, w2, w3, w4, w5, w6, w7, w8] using c29 | (simp only [vd, reduceCtorEq, ve, updD, w0, w1, w2, w3, w4, w5, w6, w7, w8] at c29; grind)
          have s8 := bd_lt (d := d7) (e := d8) p7.1 q8 c29
          refine ret_wp ?_
          try dsimp only
          have e : cc d7 ++ (cc d6 ++ (cc d5 ++ (cc d4 ++ (cc d3 ++ (cc d2 ++ (cc d1 ++ (cc d0 ++ (⟨#[]⟩ : ByteArray)))))))) = prt n := (by (rw [t0, s1, s2, s3, s4, s5, s6, s7, s8]; try simp only [app_assoc, app_nil])); simp only [vd, reduceCtorEq, ve, updD, w0, w1, w2, w3, w4, w5, w6, w7, w8]; exact congrArg Value.string e
         ·replace c29 : ¬(d8 = 0) := by first | simpa only [vd, reduceCtorEq, ve, updD, w0, w1, w2, w3, w4, w5, w6, w7, w8] using c29 | (simp only [vd, reduceCtorEq, ve, updD, w0, w1, w2, w3, w4, w5, w6, w7, w8] at c29; grind)
          have s8 := bd_ge (d := d7) (e := d8) p7.1 q8 c29
          obtain ⟨d9, q9⟩ : ∃ d : Int, d = d8 / 10 := ⟨_, rfl⟩
          have p9 : 0 ≤ d9 ∧ d9 ≤ 9223372036 := dstep p8 q9 (by decide)
          have w9 : quoD .u64 d8 10 = d9 := by rw [quo10 p8.1 (Int.lt_of_le_of_lt p8.2 (by decide)), q9]
          refine br_wp (fun c30 => ?_) (fun c30 => ?_)
          ·replace c30 : d9 = 0 := by first | simpa only [vd, reduceCtorEq, ve, updD, w0, w1, w2, w3, w4, w5, w6, w7, w8, w9] using c30 | (simp only [vd, reduceCtorEq, ve, updD, w0, w1, w2, w3, w4, w5, w6, w7, w8, w9] at c30; grind)
           have s9 := bd_lt (d := d8) (e := d9) p8.1 q9 c30
           refine ret_wp ?_
           try dsimp only
           have e : cc d8 ++ (cc d7 ++ (cc d6 ++ (cc d5 ++ (cc d4 ++ (cc d3 ++ (cc d2 ++ (cc d1 ++ (cc d0 ++ (⟨#[]⟩ : ByteArray))))))))) = prt n := (by (rw [t0, s1, s2, s3, s4, s5, s6, s7, s8, s9]; try simp only [app_assoc, app_nil])); simp only [vd, reduceCtorEq, ve, updD, w0, w1, w2, w3, w4, w5, w6, w7, w8, w9]; exact congrArg Value.string e
          ·replace c30 : ¬(d9 = 0) := by first | simpa only [vd, reduceCtorEq, ve, updD, w0, w1, w2, w3, w4, w5, w6, w7, w8, w9] using c30 | (simp only [vd, reduceCtorEq, ve, updD, w0, w1, w2, w3, w4, w5, w6, w7, w8, w9] at c30; grind)
           have s9 := bd_ge (d := d8) (e := d9) p8.1 q9 c30
           obtain ⟨d10, q10⟩ : ∃ d : Int, d = d9 / 10 := ⟨_, rfl⟩
           have p10 : 0 ≤ d10 ∧ d10 ≤ 922337203 := dstep p9 q10 (by decide)
           have w10 : quoD .u64 d9 10 = d10 := by rw [quo10 p9.1 (Int.lt_of_le_of_lt p9.2 (by decide)), q10]
           refine br_wp (fun c31 => ?_) (fun c31 => ?_)
           ·replace c31 : d10 = 0 := by first | simpa only [vd, reduceCtorEq, ve, updD, w0, w1, w2, w3, w4, w5, w6, w7, w8, w9, w10] using c31 | (simp only [vd, reduceCtorEq, ve, updD, w0, w1, w2, w3, w4, w5, w6, w7, w8, w9, w10] at c31; grind)
            have s10 := bd_lt (d := d9) (e := d10) p9.1 q10 c31
            refine ret_wp ?_
            try dsimp only
            have e : cc d9 ++ (cc d8 ++ (cc d7 ++ (cc d6 ++ (cc d5 ++ (cc d4 ++ (cc d3 ++ (cc d2 ++ (cc d1 ++ (cc d0 ++ (⟨#[]⟩ : ByteArray)))))))))) = prt n := (by (rw [t0, s1, s2, s3, s4, s5, s6, s7, s8, s9, s10]; try simp only [app_assoc, app_nil])); simp only [vd, reduceCtorEq, ve, updD, w0, w1, w2, w3, w4, w5, w6, w7, w8, w9, w10]; exact congrArg Value.string e
           ·replace c31 : ¬(d10 = 0) := by first | simpa only [vd, reduceCtorEq, ve, updD, w0, w1, w2, w3, w4, w5, w6, w7, w8, w9, w10] using c31 | (simp only [vd, reduceCtorEq, ve, updD, w0, w1, w2, w3, w4, w5, w6, w7, w8, w9, w10] at c31; grind)
            have s10 := bd_ge (d := d9) (e := d10) p9.1 q10 c31
            obtain ⟨d11, q11⟩ : ∃ d : Int, d = d10 / 10 := ⟨_, rfl⟩
            have p11 : 0 ≤ d11 ∧ d11 ≤ 92233720 := dstep p10 q11 (by decide)
            have w11 : quoD .u64 d10 10 = d11 := by rw [quo10 p10.1 (Int.lt_of_le_of_lt p10.2 (by decide)), q11]
            refine br_wp (fun c32 => ?_) (fun c32 => ?_)
            ·replace c32 : d11 = 0 := by first | simpa only [vd, reduceCtorEq, ve, updD, w0, w1, w2, w3, w4, w5, w6, w7, w8, w9, w10, w11] using c32 | (simp only [vd, reduceCtorEq, ve, updD, w0, w1, w2, w3, w4, w5, w6, w7, w8, w9, w10, w11] at c32; grind)
             have s11 := bd_lt (d := d10) (e := d11) p10.1 q11 c32
             refine ret_wp ?_
             try dsimp only
             have e : cc d10 ++ (cc d9 ++ (cc d8 ++ (cc d7 ++ (cc d6 ++ (cc d5 ++ (cc d4 ++ (cc d3 ++ (cc d2 ++ (cc d1 ++ (cc d0 ++ (⟨#[]⟩ : ByteArray))))))))))) = prt n := (by (rw [t0, s1, s2, s3, s4, s5, s6, s7, s8, s9, s10, s11]; try simp only [app_assoc, app_nil])); simp only [vd, reduceCtorEq, ve, updD, w0, w1, w2, w3, w4, w5, w6, w7, w8, w9, w10, w11]; exact congrArg Value.string e
            ·replace c32 : ¬(d11 = 0) := by first | simpa only [vd, reduceCtorEq, ve, updD, w0, w1, w2, w3, w4, w5, w6, w7, w8, w9, w10, w11] using c32 | (simp only [vd, reduceCtorEq, ve, updD, w0, w1, w2, w3, w4, w5, w6, w7, w8, w9, w10, w11] at c32; grind)
             have s11 := bd_ge (d := d10) (e := d11) p10.1 q11 c32
             obtain ⟨d12, q12⟩ : ∃ d : Int, d = d11 / 10 := ⟨_, rfl⟩
             have p12 : 0 ≤ d12 ∧ d12 ≤ 9223372 := dstep p11 q12 (by decide)
             have w12 : quoD .u64 d11 10 = d12 := by rw [quo10 p11.1 (Int.lt_of_le_of_lt p11.2 (by decide)), q12]
             refine br_wp (fun c33 => ?_) (fun c33 => ?_)
             ·replace c33 : d12 = 0 := by first | simpa only [vd, reduceCtorEq, ve, updD, w0, w1, w2, w3, w4, w5, w6, w7, w8, w9, w10, w11, w12] using c33 | (simp only [vd, reduceCtorEq, ve, updD, w0, w1, w2, w3, w4, w5, w6, w7, w8, w9, w10, w11, w12] at c33; grind)
              have s12 := bd_lt (d := d11) (e := d12) p11.1 q12 c33
              refine ret_wp ?_
              try dsimp only
              have e : cc d11 ++ (cc d10 ++ (cc d9 ++ (cc d8 ++ (cc d7 ++ (cc d6 ++ (cc d5 ++ (cc d4 ++ (cc d3 ++ (cc d2 ++ (cc d1 ++ (cc d0 ++ (⟨#[]⟩ : ByteArray)))))))))))) = prt n := (by (rw [t0, s1, s2, s3, s4, s5, s6, s7, s8, s9, s10, s11, s12]; try simp only [app_assoc, app_nil])); simp only [vd, reduceCtorEq, ve, updD, w0, w1, w2, w3, w4, w5, w6, w7, w8, w9, w10, w11, w12]; exact congrArg Value.string e
             ·replace c33 : ¬(d12 = 0) := by first | simpa only [vd, reduceCtorEq, ve, updD, w0, w1, w2, w3, w4, w5, w6, w7, w8, w9, w10, w11, w12] using c33 | (simp only [vd, reduceCtorEq, ve, updD, w0, w1, w2, w3, w4, w5, w6, w7, w8, w9, w10, w11, w12] at c33; grind)
              have s12 := bd_ge (d := d11) (e := d12) p11.1 q12 c33
              obtain ⟨d13, q13⟩ : ∃ d : Int, d = d12 / 10 := ⟨_, rfl⟩
              have p13 : 0 ≤ d13 ∧ d13 ≤ 922337 := dstep p12 q13 (by decide)
              have w13 : quoD .u64 d12 10 = d13 := by rw [quo10 p12.1 (Int.lt_of_le_of_lt p12.2 (by decide)), q13]
              refine br_wp (fun c34 => ?_) (fun c34 => ?_)
              ·replace c34 : d13 = 0 := by first | simpa only [vd, reduceCtorEq, ve, updD, w0, w1, w2, w3, w4, w5, w6, w7, w8, w9, w10, w11, w12, w13] using c34 | (simp only [vd, reduceCtorEq, ve, updD, w0, w1, w2, w3, w4, w5, w6, w7, w8, w9, w10, w11, w12, w13] at c34; grind)
               have s13 := bd_lt (d := d12) (e := d13) p12.1 q13 c34
               refine ret_wp ?_
               try dsimp only
               have e : cc d12 ++ (cc d11 ++ (cc d10 ++ (cc d9 ++ (cc d8 ++ (cc d7 ++ (cc d6 ++ (cc d5 ++ (cc d4 ++ (cc d3 ++ (cc d2 ++ (cc d1 ++ (cc d0 ++ (⟨#[]⟩ : ByteArray))))))))))))) = prt n := (by (rw [t0, s1, s2, s3, s4, s5, s6, s7, s8, s9, s10, s11, s12, s13]; try simp only [app_assoc, app_nil])); simp only [vd, reduceCtorEq, ve, updD, w0, w1, w2, w3, w4, w5, w6, w7, w8, w9, w10, w11, w12, w13]; exact congrArg Value.string e
              ·replace c34 : ¬(d13 = 0) := by first | simpa only [vd, reduceCtorEq, ve, updD, w0, w1, w2, w3, w4, w5, w6, w7, w8, w9, w10, w11, w12, w13] using c34 | (simp only [vd, reduceCtorEq, ve, updD, w0, w1, w2, w3, w4, w5, w6, w7, w8, w9, w10, w11, w12, w13] at c34; grind)
               have s13 := bd_ge (d := d12) (e := d13) p12.1 q13 c34
               obtain ⟨d14, q14⟩ : ∃ d : Int, d = d13 / 10 := ⟨_, rfl⟩
               have p14 : 0 ≤ d14 ∧ d14 ≤ 92233 := dstep p13 q14 (by decide)
               have w14 : quoD .u64 d13 10 = d14 := by rw [quo10 p13.1 (Int.lt_of_le_of_lt p13.2 (by decide)), q14]
               refine br_wp (fun c35 => ?_) (fun c35 => ?_)
               ·replace c35 : d14 = 0 := by first | simpa only [vd, reduceCtorEq, ve, updD, w0, w1, w2, w3, w4, w5, w6, w7, w8, w9, w10, w11, w12, w13, w14] using c35 | (simp only [vd, reduceCtorEq, ve, updD, w0, w1, w2, w3, w4, w5, w6, w7, w8, w9, w10, w11, w12, w13, w14] at c35; grind)
                have s14 := bd_lt (d := d13) (e := d14) p13.1 q14 c35
                refine ret_wp ?_
                try dsimp only
                have e : cc d13 ++ (cc d12 ++ (cc d11 ++ (cc d10 ++ (cc d9 ++ (cc d8 ++ (cc d7 ++ (cc d6 ++ (cc d5 ++ (cc d4 ++ (cc d3 ++ (cc d2 ++ (cc d1 ++ (cc d0 ++ (⟨#[]⟩ : ByteArray)))))))))))))) = prt n := (by (rw [t0, s1, s2, s3, s4, s5, s6, s7, s8, s9, s10, s11, s12, s13, s14]; try simp only [app_assoc, app_nil])); simp only [vd, reduceCtorEq, ve, updD, w0, w1, w2, w3, w4, w5, w6, w7, w8, w9, w10, w11, w12, w13, w14]; exact congrArg Value.string e
               ·replace c35 : ¬(d14 = 0) := by first | simpa only [vd, reduceCtorEq, ve, updD, w0, w1, w2, w3, w4, w5, w6, w7, w8, w9, w10, w11, w12, w13, w14] using c35 | (simp only [vd, reduceCtorEq, ve, updD, w0, w1, w2, w3, w4, w5, w6, w7, w8, w9, w10, w11, w12, w13, w14] at c35; grind)
                have s14 := bd_ge (d := d13) (e := d14) p13.1 q14 c35
                obtain ⟨d15, q15⟩ : ∃ d : Int, d = d14 / 10 := ⟨_, rfl⟩
                have p15 : 0 ≤ d15 ∧ d15 ≤ 9223 := dstep p14 q15 (by decide)
                have w15 : quoD .u64 d14 10 = d15 := by rw [quo10 p14.1 (Int.lt_of_le_of_lt p14.2 (by decide)), q15]
                refine br_wp (fun c36 => ?_) (fun c36 => ?_)
                ·replace c36 : d15 = 0 := by first | simpa only [vd, reduceCtorEq, ve, updD, w0, w1, w2, w3, w4, w5, w6, w7, w8, w9, w10, w11, w12, w13, w14, w15] using c36 | (simp only [vd, reduceCtorEq, ve, updD, w0, w1, w2, w3, w4, w5, w6, w7, w8, w9, w10, w11, w12, w13, w14, w15] at c36; grind)
                 have s15 := bd_lt (d := d14) (e := d15) p14.1 q15 c36
                 refine ret_wp ?_
                 try dsimp only
                 have e : cc d14 ++ (cc d13 ++ (cc d12 ++ (cc d11 ++ (cc d10 ++ (cc d9 ++ (cc d8 ++ (cc d7 ++ (cc d6 ++ (cc d5 ++ (cc d4 ++ (cc d3 ++ (cc d2 ++ (cc d1 ++ (cc d0 ++ (⟨#[]⟩ : ByteArray))))))))))))))) = prt n := (by (rw [t0, s1, s2, s3, s4, s5, s6, s7, s8, s9, s10, s11, s12, s13, s14, s15]; try simp only [app_assoc, app_nil])); simp only [vd, reduceCtorEq, ve, updD, w0, w1, w2, w3, w4, w5, w6, w7, w8, w9, w10, w11, w12, w13, w14, w15]; exact congrArg Value.string e
                ·replace c36 : ¬(d15 = 0) := by first | simpa only [vd, reduceCtorEq, ve, updD, w0, w1, w2, w3, w4, w5, w6, w7, w8, w9, w10, w11, w12, w13, w14, w15] using c36 | (simp only [vd, reduceCtorEq, ve, updD, w0, w1, w2, w3, w4, w5, w6, w7, w8, w9, w10, w11, w12, w13, w14, w15] at c36; grind)
                 have s15 := bd_ge (d := d14) (e := d15) p14.1 q15 c36
                 obtain ⟨d16, q16⟩ : ∃ d : Int, d = d15 / 10 := ⟨_, rfl⟩
                 have p16 : 0 ≤ d16 ∧ d16 ≤ 922 := dstep p15 q16 (by decide)
                 have w16 : quoD .u64 d15 10 = d16 := by rw [quo10 p15.1 (Int.lt_of_le_of_lt p15.2 (by decide)), q16]
                 refine br_wp (fun c37 => ?_) (fun c37 => ?_)
                 ·replace c37 : d16 = 0 := by first | simpa only [vd, reduceCtorEq, ve, updD, w0, w1, w2, w3, w4, w5, w6, w7, w8, w9, w10, w11, w12, w13, w14, w15, w16] using c37 | (simp only [vd, reduceCtorEq, ve, updD, w0, w1, w2, w3, w4, w5, w6, w7, w8, w9, w10, w11, w12, w13, w14, w15, w16] at c37; grind)
                  have s16 := bd_lt (d := d15) (e := d16) p15.1 q16 c37
                  refine ret_wp ?_
                  try dsimp only
                  have e : cc d15 ++ (cc d14 ++ (cc d13 ++ (cc d12 ++ (cc d11 ++ (cc d10 ++ (cc d9 ++ (cc d8 ++ (cc d7 ++ (cc d6 ++ (cc d5 ++ (cc d4 ++ (cc d3 ++ (cc d2 ++ (cc d1 ++ (cc d0 ++ (⟨#[]⟩ : ByteArray)))))))))))))))) = prt n := (by (rw [t0, s1, s2, s3, s4, s5, s6, s7, s8, s9, s10, s11, s12, s13, s14, s15, s16]; try simp only [app_assoc, app_nil])); simp only [vd, reduceCtorEq, ve, updD, w0, w1, w2, w3, w4, w5, w6, w7, w8, w9, w10, w11, w12, w13, w14, w15, w16]; exact congrArg Value.string e
                 ·replace c37 : ¬(d16 = 0) := by first | simpa only [vd, reduceCtorEq, ve, updD, w0, w1, w2, w3, w4, w5, w6, w7, w8, w9, w10, w11, w12, w13, w14, w15, w16] using c37 | (simp only [vd, reduceCtorEq, ve, updD, w0, w1, w2, w3, w4, w5, w6, w7, w8, w9, w10, w11, w12, w13, w14, w15, w16] at c37; grind)
                  have s16 := bd_ge (d := d15) (e := d16) p15.1 q16 c37
                  obtain ⟨d17, q17⟩ : ∃ d : Int, d = d16 / 10 := ⟨_, rfl⟩
                  have p17 : 0 ≤ d17 ∧ d17 ≤ 92 := dstep p16 q17 (by decide)
                  have w17 : quoD .u64 d16 10 = d17 := by rw [quo10 p16.1 (Int.lt_of_le_of_lt p16.2 (by decide)), q17]
                  refine br_wp (fun c38 => ?_) (fun c38 => ?_)
                  ·replace c38 : d17 = 0 := by first | simpa only [vd, reduceCtorEq, ve, updD, w0, w1, w2, w3, w4, w5, w6, w7, w8, w9, w10, w11, w12, w13, w14, w15, w16, w17] using c38 | (simp only [vd, reduceCtorEq, ve, updD, w0, w1, w2, w3, w4, w5, w6, w7, w8, w9, w10, w11, w12, w13, w14, w15, w16, w17] at c38; grind)
                   have s17 := bd_lt (d := d16) (e := d17) p16.1 q17 c38
                   refine ret_wp ?_
                   try dsimp only
                   have e : cc d16 ++ (cc d15 ++ (cc d14 ++ (cc d13 ++ (cc d12 ++ (cc d11 ++ (cc d10 ++ (cc d9 ++ (cc d8 ++ (cc d7 ++ (cc d6 ++ (cc d5 ++ (cc d4 ++ (cc d3 ++ (cc d2 ++ (cc d1 ++ (cc d0 ++ (⟨#[]⟩ : ByteArray))))))))))))))))) = prt n := (by (rw [t0, s1, s2, s3, s4, s5, s6, s7, s8, s9, s10, s11, s12, s13, s14, s15, s16, s17]; try simp only [app_assoc, app_nil])); simp only [vd, reduceCtorEq, ve, updD, w0, w1, w2, w3, w4, w5, w6, w7, w8, w9, w10, w11, w12, w13, w14, w15, w16, w17]; exact congrArg Value.string e
                  ·replace c38 : ¬(d17 = 0) := by first | simpa only [vd, reduceCtorEq, ve, updD, w0, w1, w2, w3, w4, w5, w6, w7, w8, w9, w10, w11, w12, w13, w14, w15, w16, w17] using c38 | (simp only [vd, reduceCtorEq, ve, updD, w0, w1, w2, w3, w4, w5, w6, w7, w8, w9, w10, w11, w12, w13, w14, w15, w16, w17] at c38; grind)
                   have s17 := bd_ge (d := d16) (e := d17) p16.1 q17 c38
                   obtain ⟨d18, q18⟩ : ∃ d : Int, d = d17 / 10 := ⟨_, rfl⟩
                   have p18 : 0 ≤ d18 ∧ d18 ≤ 9 := dstep p17 q18 (by decide)
                   have w18 : quoD .u64 d17 10 = d18 := by rw [quo10 p17.1 (Int.lt_of_le_of_lt p17.2 (by decide)), q18]
                   refine br_wp (fun c39 => ?_) (fun c39 => ?_)
                   ·replace c39 : d18 = 0 := by first | simpa only [vd, reduceCtorEq, ve, updD, w0, w1, w2, w3, w4, w5, w6, w7, w8, w9, w10, w11, w12, w13, w14, w15, w16, w17, w18] using c39 | (simp only [vd, reduceCtorEq, ve, updD, w0, w1, w2, w3, w4, w5, w6, w7, w8, w9, w10, w11, w12, w13, w14, w15, w16, w17, w18] at c39; grind)
                    have s18 := bd_lt (d := d17) (e := d18) p17.1 q18 c39
                    refine ret_wp ?_
                    try dsimp only
                    have e : cc d17 ++ (cc d16 ++ (cc d15 ++ (cc d14 ++ (cc d13 ++ (cc d12 ++ (cc d11 ++ (cc d10 ++ (cc d9 ++ (cc d8 ++ (cc d7 ++ (cc d6 ++ (cc d5 ++ (cc d4 ++ (cc d3 ++ (cc d2 ++ (cc d1 ++ (cc d0 ++ (⟨#[]⟩ : ByteArray)))))))))))))))))) = prt n := (by (rw [t0, s1, s2, s3, s4, s5, s6, s7, s8, s9, s10, s11, s12, s13, s14, s15, s16, s17, s18]; try simp only [app_assoc, app_nil])); simp only [vd, reduceCtorEq, ve, updD, w0, w1, w2, w3, w4, w5, w6, w7, w8, w9, w10, w11, w12, w13, w14, w15, w16, w17, w18]; exact congrArg Value.string e
                   ·replace c39 : ¬(d18 = 0) := by first | simpa only [vd, reduceCtorEq, ve, updD, w0, w1, w2, w3, w4, w5, w6, w7, w8, w9, w10, w11, w12, w13, w14, w15, w16, w17, w18] using c39 | (simp only [vd, reduceCtorEq, ve, updD, w0, w1, w2, w3, w4, w5, w6, w7, w8, w9, w10, w11, w12, w13, w14, w15, w16, w17, w18] at c39; grind)
                    have s18 := bd_ge (d := d17) (e := d18) p17.1 q18 c39
                    obtain ⟨d19, q19⟩ : ∃ d : Int, d = d18 / 10 := ⟨_, rfl⟩
                    have p19 : 0 ≤ d19 ∧ d19 ≤ 0 := dstep p18 q19 (by decide)
                    have w19 : quoD .u64 d18 10 = d19 := by rw [quo10 p18.1 (Int.lt_of_le_of_lt p18.2 (by decide)), q19]
                    refine br_wp (fun c40 => ?_) (fun c40 => ?_)
                    ·replace c40 : d19 = 0 := by first | simpa only [vd, reduceCtorEq, ve, updD, w0, w1, w2, w3, w4, w5, w6, w7, w8, w9, w10, w11, w12, w13, w14, w15, w16, w17, w18, w19] using c40 | (simp only [vd, reduceCtorEq, ve, updD, w0, w1, w2, w3, w4, w5, w6, w7, w8, w9, w10, w11, w12, w13, w14, w15, w16, w17, w18, w19] at c40; grind)
                     have s19 := bd_lt (d := d18) (e := d19) p18.1 q19 c40
                     refine ret_wp ?_
                     try dsimp only
                     have e : cc d18 ++ (cc d17 ++ (cc d16 ++ (cc d15 ++ (cc d14 ++ (cc d13 ++ (cc d12 ++ (cc d11 ++ (cc d10 ++ (cc d9 ++ (cc d8 ++ (cc d7 ++ (cc d6 ++ (cc d5 ++ (cc d4 ++ (cc d3 ++ (cc d2 ++ (cc d1 ++ (cc d0 ++ (⟨#[]⟩ : ByteArray))))))))))))))))))) = prt n := (by (rw [t0, s1, s2, s3, s4, s5, s6, s7, s8, s9, s10, s11, s12, s13, s14, s15, s16, s17, s18, s19]; try simp only [app_assoc, app_nil])); simp only [vd, reduceCtorEq, ve, updD, w0, w1, w2, w3, w4, w5, w6, w7, w8, w9, w10, w11, w12, w13, w14, w15, w16, w17, w18, w19]; exact congrArg Value.string e
                    ·replace c40 : ¬(d19 = 0) := by first | simpa only [vd, reduceCtorEq, ve, updD, w0, w1, w2, w3, w4, w5, w6, w7, w8, w9, w10, w11, w12, w13, w14, w15, w16, w17, w18, w19] using c40 | (simp only [vd, reduceCtorEq, ve, updD, w0, w1, w2, w3, w4, w5, w6, w7, w8, w9, w10, w11, w12, w13, w14, w15, w16, w17, w18, w19] at c40; grind)
                     exfalso; exact c40 (Int.le_antisymm p19.2 p19.1)
end Go.Proofs.YtamjocnlhhhijaaK
