/- The reader fed piece by piece: what its loop keeps. -/
import Derived.Test.YtamjocnlhhhijaaVRRy
set_option linter.unusedSimpArgs false
set_option linter.unusedVariables false
namespace Go.Proofs.YtamjocnlhhhijaaS
theorem res_run : ∀ (l l2 : Bs) (m m' : Mc), run m l = some m' → res m (l ++ l2) = res m' l2
  | [], l2, m, m', h => by injection h with h; subst h; rfl
  | c :: l, l2, m, m', h => by
    rw [List.cons_append, res]
    rw [run] at h
    cases hs : step { m with left := m.left + 1 } c with
    | none => rw [hs] at h; cases h
    | some m2 => rw [hs] at h; exact res_run l l2 m2 m' h
theorem run_snoc : ∀ (l : Bs) (c : UInt8) (m m' : Mc), run m l = some m' → run m (l ++ [c]) = step { m' with left := m'.left + 1 } c
  | [], c, m, m', h => by
    injection h with h; subst h
    rw [List.nil_append, run]
    cases step { m with left := m.left + 1 } c <;> rfl
  | d :: l, c, m, m', h => by
    rw [List.cons_append, run]
    rw [run] at h
    cases hs : step { m with left := m.left + 1 } d with
    | none => rw [hs] at h; cases h
    | some m2 => rw [hs] at h; exact run_snoc l c m2 m' h
end Go.Proofs.YtamjocnlhhhijaaS
namespace Go.Proofs.YtamjocnlhhhijaaK
open Go Go.Proofs.YtamjocnlhhhijaaV Go.Proofs.YtamjocnlhhhijaaK Go.Proofs.YtamjocnlhhhijaaK Go.Proofs.YtamjocnlhhhijaaS
/-- What the reader's loop keeps: 'A' came ahead of this piece; 'k' bytes of 'B' came. -/
structure RG (A : List (List Bs)) (B : Bs) (k : Nat) (now : Atom) (left n : Int) (sm : Bool) (args : Atom) (many : Int) (arg : Rw Int) (out : Rw (Rw ByteArray)) (m : Mc) : Prop where
  run : Go.Proofs.YtamjocnlhhhijaaS.run Go.Proofs.YtamjocnlhhhijaaS.start (B.take k) = some m
  kl : k ≤ B.length
  now : Now m.σ now
  left : left = m.left
  n : n = m.n
  sm : sm = m.some
  many : many = m.many
  args : hasA m.σ = true → ∃ r : Rw ByteArray, args = r.atom eS ∧ r.l.map ls = m.args ∧ r.ok 1
  arg : arg.l = bI m.arg ∧ arg.ok 1
  out : A ++ (vv out).map (List.map ls) = m.out ∧ okL out
  pos : 0 ≤ m.n ∧ m.n ≤ 1000
  wt : Wt m ≤ 2 * k
  lft : m.left ≤ k
section
variable {A : List (List Bs)} {B : Bs} {k : Nat} {now args : Atom} {left n many : Int} {sm : Bool} {arg : Rw Int} {out : Rw (Rw ByteArray)} {m : Mc}
theorem RG.start (B : Bs) {x : Atom} (h : cloB (some 40) [.int .u8 42, .fn 33] x = true) : RG [] B 0 x 0 0 false (Rw.atom eS Rw.nil) 0 Rw.nil Rw.nil Go.Proofs.YtamjocnlhhhijaaS.start :=
  ⟨rfl, Nat.zero_le _, h, rfl, rfl, rfl, rfl, fun h => by simp [Go.Proofs.YtamjocnlhhhijaaS.start, hasA] at h, ⟨rfl, .inl rfl⟩, ⟨rfl, .inl rfl, by simp [Rw.nil]⟩, by decide, by decide, by decide⟩
theorem take_snoc {B : Bs} {k : Nat} {c : UInt8} (h : B[k]? = some c) : B.take (k + 1) = B.take k ++ [c] := by
  rw [List.take_add_one, h]; rfl
theorem RG.next' (h : RG A B k now left n sm args many arg out m) {z : Int} (hz : B[k]? = some (UInt8.ofNat z.toNat)) (h0 : 0 ≤ z) (h1 : z < 256) {k' : Nat} (hk : k' = k + 1) {m' : Mc} (hs : stepZ m z = some m') {now' args' : Atom} {left' n' many' : Int} {sm' : Bool} {arg' : Rw Int} {out' : Rw (Rw ByteArray)}
    (hN : Now m'.σ now') (hl : left' = m'.left) (hn : n' = m'.n) (hsm : sm' = m'.some) (hmany : many' = m'.many) (hA : hasA m'.σ = true → ∃ r : Rw ByteArray, args' = r.atom eS ∧ r.l.map ls = m'.args ∧ r.ok 1)
    (harg : arg'.l = bI m'.arg ∧ arg'.ok 1) (hout : A ++ (vv out').map (List.map ls) = m'.out ∧ okL out') : RG A B k' now' left' n' sm' args' many' arg' out' m' := by
  obtain ⟨w1, w2, w3, w4⟩ := step_wt h0 h1 hs h.pos
  have hlt := (List.getElem?_eq_some_iff.1 hz).1
  have h2 := h.wt
  have h3 := h.lft
  subst hk
  refine ⟨?_, hlt, hN, hl, hn, hsm, hmany, hA, harg, hout, ⟨w3, w4⟩, by omega, by omega⟩
  rw [take_snoc hz, run_snoc _ _ _ _ h.run]
  exact hs
theorem RG.wrong (h : RG A B k now left n sm args many arg out m) {z : Int} (hz : B[k]? = some (UInt8.ofNat z.toNat)) (hs : stepZ m z = none) : ∀ q, k < q → res Go.Proofs.YtamjocnlhhhijaaS.start (B.take q) = (m.out, 0, true) := by
  intro q hq
  have e : B.take q = B.take k ++ (UInt8.ofNat z.toNat :: (B.take q).drop (k + 1)) := by
    have h1 := List.take_append_drop (k + 1) (B.take q)
    rw [List.take_take, Nat.min_eq_left (by omega), take_snoc hz, List.append_assoc] at h1
    exact h1.symm
  rw [e, res_run _ _ _ _ h.run, res]
  unfold stepZ at hs
  rw [hs]
theorem RG.done (h : RG A B k now left n sm args many arg out m) : res Go.Proofs.YtamjocnlhhhijaaS.start (B.take k) = (m.out, m.left, false) := by
  have := res_run (B.take k) [] _ _ h.run
  rw [List.append_nil] at this
  rw [this]; rfl
/-- The next piece. -/
theorem RG.cut (h : RG A B k now left n sm args many arg out m) {A' : List (List Bs)} (e : A' = A ++ (vv out).map (List.map ls)) : RG A' B k now left n sm args many arg Rw.nil m :=
  ⟨h.run, h.kl, h.now, h.left, h.n, h.sm, h.many, h.args, h.arg, ⟨by rw [e, ← h.out.1]; simp [vv, Rw.nil], .inl rfl, by simp [Rw.nil]⟩, h.pos, h.wt, h.lft⟩
theorem RG.count (h : RG A B k now left n sm args many arg out m) : A.length + out.l.length ≤ 2 * k := by
  have h1 := wO_len m.out
  have h2 := h.wt
  have h3 := congrArg List.length h.out.1
  simp only [List.length_append, List.length_map, vv] at h3
  unfold Wt at h2
  omega
end
/-- Between two pieces. -/
structure OI (B : Bs) (all : Rw (Rw ByteArray)) (k : Nat) (now : Atom) (wr : Bool) (left n : Int) (sm : Bool) (args : Atom) (many : Int) (arg : Rw Int) : Prop where
  ok : okL all
  kl : k ≤ B.length
  len : all.l.length ≤ 2 * k
  w : (wr = true ∧ left = 0 ∧ ∀ q, k ≤ q → res Go.Proofs.YtamjocnlhhhijaaS.start (B.take q) = ((vv all).map (List.map ls), 0, true)) ∨ (wr = false ∧ ∃ m, RG ((vv all).map (List.map ls)) B k now left n sm args many arg Rw.nil m)
section
variable {B : Bs} {all : Rw (Rw ByteArray)} {k : Nat} {now args : Atom} {left n many : Int} {sm wr : Bool} {arg : Rw Int}
theorem OI.start (B : Bs) {x : Atom} (h : cloB (some 40) [.int .u8 42, .fn 33] x = true) : OI B Rw.nil 0 x false 0 0 false (Rw.atom eS Rw.nil) 0 Rw.nil :=
  ⟨⟨.inl rfl, by simp [Rw.nil]⟩, Nat.zero_le _, by simp [Rw.nil], .inr ⟨rfl, _, RG.start B h⟩⟩
theorem vv_app {x y z : Rw (Rw ByteArray)} (h : x.l = y.l ++ z.l) : vv x = vv y ++ vv z := by unfold vv; rw [h, List.map_append]
theorem okL_app {x y z : Rw (Rw ByteArray)} (h : x.l = y.l ++ z.l) (hx : x.ok 1) (hy : okL y) (hz : okL z) : okL x := by
  refine ⟨hx, fun w hw => ?_⟩
  rw [h] at hw
  rcases List.mem_append.1 hw with hw | hw
  · exact hy.2 w hw
  · exact hz.2 w hw
/-- Fed a piece behind what is wrong. -/
theorem OI.skip (h : OI B all k now wr left n sm args many arg) (hw : wr = true) {k' : Nat} (hk : k ≤ k') (hk2 : k' ≤ B.length) {all' : Rw (Rw ByteArray)} (e : all'.l = all.l ++ []) (ka : all'.ok 1) : OI B all' k' now wr left n sm args many arg := by
  rcases h.w with ⟨_, h2, h3⟩ | ⟨h1, _⟩
  · have e2 : vv all' = vv all := by unfold vv; rw [e, List.append_nil]
    have := h.len
    refine ⟨⟨ka, fun w hw => h.ok.2 w (by rw [e, List.append_nil] at hw; exact hw)⟩, hk2, by rw [e, List.append_nil]; omega, .inl ⟨hw, h2, fun q hq => ?_⟩⟩
    rw [e2]; exact h3 q (by omega)
  · rw [hw] at h1; cases h1
theorem OI.m (h : OI B all k now wr left n sm args many arg) (hw : ¬wr = true) : ∃ m, RG ((vv all).map (List.map ls)) B k now left n sm args many arg Rw.nil m := by
  rcases h.w with ⟨h1, _⟩ | ⟨_, h1⟩
  · exact absurd h1 hw
  · exact h1
variable {A : List (List Bs)} {out : Rw (Rw ByteArray)} {m : Mc}
/-- A piece, all of it. -/
theorem RG.back (h : RG ((vv all).map (List.map ls)) B k now left n sm args many arg out m) (ho : okL all) {all' : Rw (Rw ByteArray)} (e : all'.l = all.l ++ out.l) (ka : all'.ok 1) (hw : wr = false) : OI B all' k now wr left n sm args many arg := by
  have h2 := h.count
  simp only [List.length_map, vv] at h2
  exact ⟨okL_app e ka ho h.out.2, h.kl, by rw [e, List.length_append]; omega, .inr ⟨hw, m, h.cut (by rw [vv_app e, List.map_append])⟩⟩
/-- A piece, and it is wrong. -/
theorem RG.bad (h : RG ((vv all).map (List.map ls)) B k now left n sm args many arg out m) {z : Int} (hz : B[k]? = some (UInt8.ofNat z.toNat)) (hs : stepZ m z = none) (ho : okL all) {k' : Nat} (hk : k < k') (hk2 : k' ≤ B.length) {all' : Rw (Rw ByteArray)} (e : all'.l = all.l ++ out.l) (ka : all'.ok 1) {now' args' : Atom} {left' n' many' : Int} {sm' : Bool} {arg' : Rw Int} (hl : left' = 0) (hw : wr = true) : OI B all' k' now' wr left' n' sm' args' many' arg' := by
  have h2 := h.count
  simp only [List.length_map, vv] at h2
  refine ⟨okL_app e ka ho h.out.2, hk2, by rw [e, List.length_append]; omega, .inl ⟨hw, hl, fun q hq => ?_⟩⟩
  rw [h.wrong hz hs q (by omega), ← h.out.1, vv_app e, List.map_append]
end
/-- All pieces came. -/
theorem OI.fin {B : Bs} {all : Rw (Rw ByteArray)} {k : Nat} {now args : Atom} {left n many : Int} {sm wr : Bool} {arg : Rw Int} (h : OI B all k now wr left n sm args many arg) (hk : B.length ≤ k) : res Go.Proofs.YtamjocnlhhhijaaS.start B = ((vv all).map (List.map ls), left.toNat, wr) ∧ 0 ≤ left := by
  rcases h.w with ⟨h1, h2, h3⟩ | ⟨h1, m, h2⟩
  · have := h3 B.length h.kl
    rw [List.take_length] at this
    rw [this, h1, h2]
    exact ⟨rfl, Int.le_refl _⟩
  · have := h2.done
    rw [List.take_of_length_le hk] at this
    have h3 := h2.out.1
    simp only [vv, Rw.nil, List.map_nil, List.append_nil] at h3
    rw [this, h1, ← h3, h2.left, Int.toNat_natCast]
    exact ⟨rfl, by omega⟩
theorem fin6 {b : Rw Int} {x all : Rw (Rw ByteArray)} {nn e : Int} (w : wholeP b x nn e) (hB : isB b.l) (hl : b.l.length ≤ 2000) {k : Nat} {now args : Atom} {left n many : Int} {sm wr : Bool} {arg : Rw Int} (h : OI (bS b.l) all k now wr left n sm args many arg) (hk : b.l.length ≤ k) :
    vv all = vv x ∧ (e = if wr = true then 7 else 0) ∧ (wr = false → left = b.l.length - nn) ∧ (all.l.length : Int) ≤ 2000 ∧ ∀ z ∈ all.l, (z.l.length : Int) ≤ 2000 := by
  obtain ⟨hf, h0⟩ := h.fin (by rw [bS_len]; exact hk)
  have hv : vv all = vv x := inj_ls (by rw [w.out, hf])
  obtain ⟨l1, l2⟩ := whole_len w hB hl
  have hlen : all.l.length = x.l.length := by have := congrArg List.length hv; simpa [vv] using this
  refine ⟨hv, by rw [w.e, hf], fun hw => ?_, by omega, fun z hz => ?_⟩
  · obtain ⟨r, h1, h2, _⟩ := res_inv (bS b.l)
    rw [hf] at h1 h2
    have h3 := h2 hw
    have h4 := congrArg List.length h1
    rw [bS_len, List.length_append] at h4
    have h5 : nn = ((((vv all).map (List.map ls)).flatMap cmdL).length : Int) := by rw [w.n, ← hv, clen_flat]
    simp only at h3 h4
    omega
  · have hm : z.l ∈ vv x := by rw [← hv]; exact vv_mem hz
    obtain ⟨y, hy, ey⟩ := List.mem_map.1 hm
    have := (l2 y hy).1
    rw [ey] at this; omega
/-- A piece of bytes, byte by byte. -/
theorem piece_get {b p : Rw Int} {s t : Int} (hp : p.l = (b.sub 1 s t).l) (h0 : 0 ≤ s) (h1 : s ≤ t) (h2 : t ≤ b.l.length) {i : Int} (i0 : 0 ≤ i) (i1 : i < p.l.length) : (bS b.l)[s.toNat + i.toNat]? = some (UInt8.ofNat (p.get i).toNat) := by
  have h3 := bS_get i0 i1
  rw [hp] at h3
  have e : bS (b.sub 1 s t).l = ((bS b.l).take t.toNat).drop s.toNat := by unfold bS Rw.sub; rw [← List.map_take, ← List.map_drop]
  rw [e, List.getElem?_drop] at h3
  have hl : i < t - s := by
    have : (p.l.length : Int) = t - s := by rw [hp]; simp [Rw.sub]; omega
    omega
  rw [List.getElem?_take, if_pos (by omega)] at h3
  exact h3
theorem sub_len (b : Rw Int) {s t : Int} (h0 : 0 ≤ s) (h1 : s ≤ t) (h2 : t ≤ b.l.length) : ((b.sub 1 s t).l.length : Int) = t - s := by simp [Rw.sub]; omega
end Go.Proofs.YtamjocnlhhhijaaK
