/- The chapter's digits: contracts with rows. -/
import Derived.Test.YtmhfooalcohpgaaVR1g
import Derived.Test.YtmhfooalcohpgaaVBr
import Derived.Test.YtmhfooalcohpgaaVR1n
set_option linter.unusedSimpArgs false
set_option linter.unusedVariables false
namespace Go.Proofs.YtmhfooalcohpgaaK
open Go Go.Proofs.YtmhfooalcohpgaaV Go.Proofs Go.RowKit Go.Proofs.Ytmhfooalcohpgaa.PNumParts Go.Proofs.YtmhfooalcohpgaaW.PrintWords Go.Proofs.YtmhfooalcohpgaaW.PrintMore
theorem rowI_inj {l m : List Int} (h : rowI l = rowI m) : l = m := by
  unfold rowI at h
  simp only [D.rows.injEq, true_and] at h
  induction l generalizing m with
  | nil => cases m with
    | nil => rfl
    | cons b m => simp at h
  | cons a l ih => cases m with
    | nil => simp at h
    | cons b m =>
      simp only [List.map_cons, List.cons.injEq, Prod.mk.injEq, Value.int.injEq, true_and, and_true] at h
      rw [h.1, ih h.2]
/-- A row of digits. -/
def dgs (s : Sl) (l : List Int) : Prop := s.d = rowI l ∧ s.n = l.length ∧ dig l ∧ l.length ≤ s.c
theorem dgs_inj {s : Sl} {l m : List Int} (h : dgs s l) (h2 : dgs s m) : l = m := rowI_inj (h.1.symm.trans h2.1)
def kOfD (sg : Sig) : Sig × Con := (sg, mkCon (fun n : Int => [aI n]) in64 (fun n outs => ∃ (s : Sl) (l : List Int) (g : Int), outs = [s.atom, aI g] ∧ dgs s l ∧ l.length = 4 ∧ (g = 0 ∧ 0 ≤ n ∧ val l = n ∨ g = 1 ∧ n < 0 ∧ val l = -n)))
theorem h33 : holds Try.prog (kOfD sg33) := by
  refine ⟨⟨Try.f33, Try.func33, by kernel_rfl, by kernel_rfl⟩, ?_⟩
  rintro args m w hm hg ⟨n, rfl, h1, h2⟩
  obtain ⟨l, s, e, d1, d2, d3⟩ := of_is (k := 6) (Nat.le_refl _) h1 h2
  refine (tapsterref01_Of.calls 6 n l s w e).mono ?_
  rintro en w' ⟨v, rfl, hR, hb⟩
  obtain ⟨hgood, a, c, rfl, hle⟩ := good_of (m := m) hR (Nat.le_refl _)
  refine ⟨[(.slice a l.length c, rowI l), aI s], rfl, ⟨⟨a, _, c, rfl⟩, ⟨_, rfl⟩, trivial⟩, fun x hx _ => ?_, ?_, hb⟩
  · have hx : n = x := by simpa using hx
    subst hx
    exact ⟨⟨a, l.length, c, rowI l⟩, l, s, rfl, ⟨rfl, rfl, d1, hle⟩, d2, d3⟩
  · refine outs0 fun x hx => ?_
    simp only [List.mem_cons, List.not_mem_nil, or_false] at hx
    rcases hx with rfl | rfl
    · exact hgood
    · exact ⟨.leaf _, rfl⟩
def two (x : Sl × Sl) : List Atom := [x.1.atom, x.2.atom]
theorem two_inj {x y : Sl × Sl} (h : two x = two y) : x = y := by
  simp only [two, List.cons.injEq, and_true] at h
  exact Prod.ext (Sl.inj h.1) (Sl.inj h.2)
def preTwo (N : Nat) (x : Sl × Sl) : Prop := ∃ l m, dgs x.1 l ∧ dgs x.2 m ∧ l.length ≤ N ∧ m.length ≤ N
theorem sl_reads {m : Addr → Option Value} {w : World} (hm : ∀ ad v, m ad = some v → w.cell? ad = some v) {s : Sl} {l : List Int} (h : Go.Proofs.YtmhfooalcohpgaaV.Good m s.atom) (hd : dgs s l) (hn : l.length ≤ 1000) : Kd.C (Kd.int .i64) w s.a l.length l := by
  have h2 : Go.Proofs.YtmhfooalcohpgaaV.Good m (.slice s.a s.n s.c, rowI l) := by rw [← hd.1]; exact h
  exact (reads_of hm h2 (by omega)).2
/-- A call of two rows that gives a row. -/
def kTwo (N : Nat) (Q : List Int → List Int → List Int → Prop) (sg : Sig) : Sig × Con := (sg, mkCon two (preTwo N) (fun x outs => ∀ l m, dgs x.1 l → dgs x.2 m → ∃ (s : Sl) (r : List Int), outs = [s.atom] ∧ dgs s r ∧ Q l m r))
theorem vals2 (x : Sl × Sl) : (mkVals [none, none] ((two x).map (·.1))).toArray = #[.slice x.1.a x.1.n x.1.c, .slice x.2.a x.2.n x.2.c] := rfl
theorem h32 : holds Try.prog (kTwo 100 (fun l m r => val r = val l * val m ∧ r.length = l.length + m.length + 1) sg32) := by
  refine ⟨⟨Try.f32, Try.func32, by kernel_rfl, by kernel_rfl⟩, ?_⟩
  rintro args mm w hm hg ⟨x, rfl, l, m, h1, h2, h3, h4⟩
  obtain ⟨r, e, d1, d2, d3⟩ := times_is h1.2.2.1 h2.2.2.1 h3 h4 (Nat.le_refl _)
  have g1 := sl_reads hm (hg _ (by simp [two])) h1 (by omega)
  have g2 := sl_reads hm (hg _ (by simp [two])) h2 (by omega)
  have hc := tapsterref01_times.calls 1000000 x.1.a x.1.c l x.2.a x.2.c m r w g1 h1.2.2.2 g2 h2.2.2.2 e
  rw [← h1.2.1, ← h2.2.1] at hc
  refine hc.mono ?_
  rintro en w' ⟨v, rfl, hR, hb⟩
  obtain ⟨hgood, a, c, rfl, hle⟩ := good_of (m := mm) hR (Nat.le_refl _)
  refine ⟨[(.slice a r.length c, rowI r)], rfl, ⟨⟨a, _, c, rfl⟩, trivial⟩, fun y hy _ l' m' k1 k2 => ?_, ?_, hb⟩
  · obtain rfl := two_inj hy
    obtain rfl := dgs_inj h1 k1
    obtain rfl := dgs_inj h2 k2
    exact ⟨⟨a, r.length, c, rowI r⟩, r, rfl, ⟨rfl, rfl, d1, hle⟩, d2, d3⟩
  · refine outs0 fun z hz => ?_
    simp only [List.mem_cons, List.not_mem_nil, or_false] at hz
    subst hz
    exact hgood
theorem h36 : holds Try.prog (kTwo 400 (fun l m r => val r = val l + val m ∧ r.length ≤ max l.length m.length + 1) sg36) := by
  refine ⟨⟨Try.f36, Try.func36, by kernel_rfl, by kernel_rfl⟩, ?_⟩
  rintro args mm w hm hg ⟨x, rfl, l, m, h1, h2, h3, h4⟩
  obtain ⟨r, e, d1, d2, d3⟩ := plus_is h1.2.2.1 h2.2.2.1 h3 h4 (Nat.le_refl _)
  have g1 := sl_reads hm (hg _ (by simp [two])) h1 (by omega)
  have g2 := sl_reads hm (hg _ (by simp [two])) h2 (by omega)
  have hc := tapsterref01_plus.calls 2000 x.1.a x.1.c l x.2.a x.2.c m r w g1 h1.2.2.2 g2 h2.2.2.2 e
  rw [← h1.2.1, ← h2.2.1] at hc
  refine hc.mono ?_
  rintro en w' ⟨v, rfl, hR, hb⟩
  obtain ⟨hgood, a, c, rfl, hle⟩ := good_of (m := mm) hR (Nat.le_refl _)
  refine ⟨[(.slice a r.length c, rowI r)], rfl, ⟨⟨a, _, c, rfl⟩, trivial⟩, fun y hy _ l' m' k1 k2 => ?_, ?_, hb⟩
  · obtain rfl := two_inj hy
    obtain rfl := dgs_inj h1 k1
    obtain rfl := dgs_inj h2 k2
    exact ⟨⟨a, r.length, c, rowI r⟩, r, rfl, ⟨rfl, rfl, d1, hle⟩, d2, d3⟩
  · refine outs0 fun z hz => ?_
    simp only [List.mem_cons, List.not_mem_nil, or_false] at hz
    subst hz
    exact hgood
def kCmp (sg : Sig) : Sig × Con := (sg, mkCon two (preTwo 500) (fun x outs => ∀ l m, dgs x.1 l → dgs x.2 m → ∃ c : Int, outs = [aI c] ∧ (0 < c ↔ val m < val l) ∧ (c < 0 ↔ val l < val m)))
theorem h35 : holds Try.prog (kCmp sg35) := by
  refine ⟨⟨Try.f35, Try.func35, by kernel_rfl, by kernel_rfl⟩, ?_⟩
  rintro args mm w hm hg ⟨x, rfl, l, m, h1, h2, h3, h4⟩
  obtain ⟨c, e, d1, d2⟩ := cmp_is h1.2.2.1 h2.2.2.1 h3 h4 (Nat.le_refl _)
  have g1 := sl_reads hm (hg _ (by simp [two])) h1 (by omega)
  have g2 := sl_reads hm (hg _ (by simp [two])) h2 (by omega)
  have hc := tapsterref01_cmp.calls 2000 x.1.a x.1.c l x.2.a x.2.c m c w g1 h1.2.2.2 g2 h2.2.2.2 e
  rw [← h1.2.1, ← h2.2.1] at hc
  refine hc.mono ?_
  rintro en w' ⟨rfl, hb⟩
  refine ⟨[aI c], rfl, ⟨⟨_, rfl⟩, trivial⟩, fun y hy _ l' m' k1 k2 => ?_, ?_, hb⟩
  · obtain rfl := two_inj hy
    obtain rfl := dgs_inj h1 k1
    obtain rfl := dgs_inj h2 k2
    exact ⟨c, rfl, d1, d2⟩
  · refine outs0 fun z hz => ?_
    simp only [List.mem_cons, List.not_mem_nil, or_false] at hz
    subst hz
    exact ⟨.leaf _, rfl⟩
def kNumber (sg : Sig) : Sig × Con := (sg, mkCon (fun x : Sl × Int => [x.1.atom, aI x.2]) (fun x => x.2 = 0 ∧ ∃ l, dgs x.1 l ∧ l.length ≤ 400) (fun x outs => ∀ l, dgs x.1 l → outs = [aI (if val l ≤ 9223372036854775807 then val l else 0), aB (decide (val l ≤ 9223372036854775807))]))
theorem h34 : holds Try.prog (kNumber sg34) := by
  refine ⟨⟨Try.f34, Try.func34, by kernel_rfl, by kernel_rfl⟩, ?_⟩
  rintro args mm w hm hg ⟨⟨s, n⟩, rfl, h0, l, h1, h2⟩
  simp only at h0 h1
  subst h0
  have e := number_is (s := 0) h1.2.2.1 h2 (Or.inl rfl) (Nat.le_refl _)
  have hv := (val_bd h1.2.2.1).1
  have es : sv l 0 = val l := by simp [sv]
  have ef : fitsB (val l) = decide (val l ≤ 9223372036854775807) := by unfold fitsB; rw [Bool.eq_iff_iff]; simp; omega
  rw [es, ef] at e
  simp only [decide_eq_true_eq] at e
  have g1 := sl_reads hm (hg _ (by simp)) h1 (by omega)
  have hc := tapsterref01_number.calls 2000 s.a s.c l 0 _ _ w g1 h1.2.2.2 e
  rw [← h1.2.1] at hc
  refine hc.mono ?_
  rintro en w' ⟨rfl, hb⟩
  refine ⟨[aI (if val l ≤ 9223372036854775807 then val l else 0), aB (decide (val l ≤ 9223372036854775807))], rfl, ⟨⟨_, rfl⟩, ⟨_, rfl⟩, trivial⟩, fun y hy _ l' k1 => ?_, ?_, hb⟩
  · obtain ⟨s2, n2⟩ := y
    simp only [List.cons.injEq, and_true] at hy
    obtain rfl := Sl.inj hy.1
    obtain rfl := dgs_inj h1 k1
    rfl
  · refine outs0 fun z hz => ?_
    simp only [List.mem_cons, List.not_mem_nil, or_false] at hz
    rcases hz with rfl | rfl <;> exact ⟨.leaf _, rfl⟩
def kBy (sg : Sig) : Sig × Con := (sg, mkCon two (fun x => ∃ l m, dgs x.1 l ∧ dgs x.2 m ∧ 1 ≤ l.length ∧ l.length ≤ 12 ∧ m.length ≤ 100 ∧ 1 ≤ val m) (fun x outs => ∀ l m, dgs x.1 l → dgs x.2 m → ∃ (s t : Sl) (q r : List Int), outs = [s.atom, t.atom] ∧ dgs s q ∧ dgs t r ∧ q.length = l.length ∧ r.length = l.length ∧ val l = val r + val m * val q ∧ val r < val m))
theorem h31 : holds Try.prog (kBy sg31) := by
  refine ⟨⟨Try.f31, Try.func31, by kernel_rfl, by kernel_rfl⟩, ?_⟩
  rintro args mm w hm hg ⟨x, rfl, l, m, h1, h2, h0, h3, h4, h5⟩
  obtain ⟨q, r, e, d1, d2, d3, d4, d5, d6⟩ := by_is h1.2.2.1 h2.2.2.1 h3 h4 h5 (Nat.le_refl _)
  have g1 := sl_reads hm (hg _ (by simp [two])) h1 (by omega)
  have g2 := sl_reads hm (hg _ (by simp [two])) h2 (by omega)
  have v1 := V_of (e := 3) (base := w.heap.size) g1 h1.2.2.2
  have v2 := V_of (e := 3) (base := w.heap.size) g2 h2.2.2.2
  have hc := tapsterref01_by.calls 5000 _ x.1.a x.1.c l _ x.2.a x.2.c m q r w v1 v2 e
  rw [← h1.2.1, ← h2.2.1] at hc
  refine hc.mono ?_
  rintro en w' ⟨v, u, rfl, hR, hV, hb, hu⟩
  obtain ⟨hgood, a, c, rfl, hle⟩ := good_of (m := mm) hR (Nat.le_refl _)
  have hu' : Go.Proofs.YtmhfooalcohpgaaV.Good (ext mm w w' []) (u, rowI r) ∧ ∃ a c, u = .slice a r.length c ∧ r.length ≤ c := by
    rcases hu with ⟨rfl, rfl⟩ | hu
    · have hgx := hg x.1.atom (by simp [two])
      refine ⟨?_, _, _, by rw [h1.2.1], h1.2.2.2⟩
      have : (Value.slice x.1.a x.1.n x.1.c, rowI r) = x.1.atom := by rw [← h1.1]; rfl
      rw [this]
      refine hgx.mono (fun ad v hv => ?_)
      unfold ext
      rw [if_neg (Nat.not_le.2 (cell_lt (hm ad v hv)))]
      exact hv
    · exact good_of_V hV hu (by omega)
  obtain ⟨hgu, a2, c2, rfl, hle2⟩ := hu'
  refine ⟨[(.slice a q.length c, rowI q), (.slice a2 r.length c2, rowI r)], rfl, ⟨⟨a, _, c, rfl⟩, ⟨a2, _, c2, rfl⟩, trivial⟩, fun y hy _ l' m' k1 k2 => ?_, ?_, hb⟩
  · obtain rfl := two_inj hy
    obtain rfl := dgs_inj h1 k1
    obtain rfl := dgs_inj h2 k2
    exact ⟨⟨a, q.length, c, rowI q⟩, ⟨a2, r.length, c2, rowI r⟩, q, r, rfl, ⟨rfl, rfl, d1, hle⟩, ⟨rfl, rfl, d2, hle2⟩, d3, d4, d5, d6⟩
  · refine outs0 fun z hz => ?_
    simp only [List.mem_cons, List.not_mem_nil, or_false] at hz
    rcases hz with rfl | rfl
    · exact hgood
    · exact hgu
end Go.Proofs.YtmhfooalcohpgaaK
