/- Digits: what numbers are printed as, and what is read of them. -/
import Derived.Test.YtamjocnlhhhijaaVC
import Derived.Test.YtamjocnlhhhijaaVC
import Derived.Lib.AtoiAll
set_option linter.unusedSimpArgs false
set_option linter.unusedVariables false
namespace Go.Proofs.YtamjocnlhhhijaaK
open Go Go.Proofs.YtamjocnlhhhijaaV
def in64 (n : Int) : Prop := -9223372036854775808 ≤ n ∧ n ≤ 9223372036854775807
instance (n : Int) : Decidable (in64 n) := by unfold in64; exact inferInstance
def ch (d : Nat) : UInt8 := UInt8.ofNat (48 + d)
theorem ch_nat {d : Nat} (h : d < 10) : (ch d).toNat = 48 + d := by
  unfold ch; rw [UInt8.toNat_ofNat']; omega
def dg (m : Nat) : List UInt8 := if m < 10 then [ch m] else dg (m / 10) ++ [ch (m % 10)]
theorem dg_lt {m : Nat} (h : m < 10) : dg m = [ch m] := by rw [dg, if_pos h]
theorem dg_ge {m : Nat} (h : 10 ≤ m) : dg m = dg (m / 10) ++ [ch (m % 10)] := by rw [dg, if_neg (by omega)]
theorem dg_ten (m d : Nat) (hm : 1 ≤ m) (hd : d < 10) : dg (10 * m + d) = dg m ++ [ch d] := by
  rw [dg_ge (by omega), show (10 * m + d) / 10 = m by omega, show (10 * m + d) % 10 = d by omega]
theorem dg_ind {P : Nat → Prop} (h1 : ∀ m, m < 10 → P m) (h2 : ∀ m, 10 ≤ m → P (m / 10) → P m) : ∀ m, P m := by
  intro m
  induction m using Nat.strongRecOn with
  | _ m ih =>
    by_cases h : m < 10
    · exact h1 m h
    · exact h2 m (by omega) (ih _ (by omega))
def dig (c : UInt8) : Prop := 48 ≤ c.toNat ∧ c.toNat ≤ 57
theorem dig_ch {d : Nat} (h : d < 10) : dig (ch d) := by unfold dig; rw [ch_nat h]; omega
theorem dg_dig (m : Nat) : ∀ c ∈ dg m, dig c := by
  refine dg_ind (P := fun m => ∀ c ∈ dg m, dig c) (fun m h c hc => ?_) (fun m h ih c hc => ?_) m
  · rw [dg_lt h] at hc
    obtain rfl := List.mem_singleton.1 hc
    exact dig_ch h
  · rw [dg_ge h] at hc
    rcases List.mem_append.1 hc with hc | hc
    · exact ih c hc
    · obtain rfl := List.mem_singleton.1 hc
      exact dig_ch (by omega)
theorem dg_ne (m : Nat) : dg m ≠ [] := by
  by_cases h : m < 10
  · rw [dg_lt h]; simp
  · rw [dg_ge (by omega)]; simp
theorem dg_len (k m : Nat) (h : m < 10 ^ (k + 1)) : (dg m).length ≤ k + 1 := by
  induction k generalizing m with
  | zero => rw [dg_lt (by simpa using h)]; simp
  | succ k ih =>
    by_cases h1 : m < 10
    · rw [dg_lt h1]; simp
    · rw [dg_ge (by omega), List.length_append]
      have := ih (m / 10) (by rw [Nat.pow_succ] at h; omega)
      simp only [List.length_cons, List.length_nil]; omega
theorem dg_head (m : Nat) (h : 0 < m) : ∃ c r, dg m = c :: r ∧ c ≠ 48 ∧ c ≠ 45 := by
  refine dg_ind (P := fun m => 0 < m → ∃ c r, dg m = c :: r ∧ c ≠ 48 ∧ c ≠ 45) (fun m h h0 => ?_) (fun m h ih _ => ?_) m h
  · refine ⟨ch m, [], dg_lt h, fun e => ?_, fun e => ?_⟩
    · have := ch_nat h; rw [e] at this; simp at this; omega
    · have := ch_nat h; rw [e] at this; simp at this; omega
  · obtain ⟨c, r, e, h1, h2⟩ := ih (by omega)
    exact ⟨c, r ++ [ch (m % 10)], by rw [dg_ge h, e]; rfl, h1, h2⟩
def vl0 (a : Nat) (l : List UInt8) : Nat := l.foldl (fun a c => 10 * a + (c.toNat - 48)) a
def vl (l : List UInt8) : Nat := vl0 0 l
theorem vl_app (l : List UInt8) (c : UInt8) : vl (l ++ [c]) = 10 * vl l + (c.toNat - 48) := by simp [vl, vl0]
theorem vl_dg (m : Nat) : vl (dg m) = m := by
  refine dg_ind (P := fun m => vl (dg m) = m) (fun m h => ?_) (fun m h ih => ?_) m
  · rw [dg_lt h]; simp [vl, vl0, ch_nat h]
  · rw [dg_ge h, vl_app, ih, ch_nat (by omega)]; omega
def pr (n : Int) : List UInt8 := if n < 0 then 45 :: dg (-n).toNat else dg n.toNat
def val : List UInt8 → Int
  | [] => 0
  | c :: r => if c = 45 then -(vl r : Int) else (vl (c :: r) : Int)
theorem dig_45 {c : UInt8} (h : dig c) : c ≠ 45 := fun e => by subst e; unfold dig at h; simp at h
theorem val_dg (m : Nat) : val (dg m) = m := by
  have h := dg_dig m
  have e := vl_dg m
  cases hd : dg m with
  | nil => exact absurd hd (dg_ne m)
  | cons c r =>
    rw [hd] at h e
    simp only [val]
    rw [if_neg (dig_45 (h c (by simp))), e]
theorem val_pr (n : Int) : val (pr n) = n := by
  unfold pr
  split
  · simp only [val, if_true, vl_dg]; omega
  · rw [val_dg]; omega
theorem pr_inj {a b : Int} (h : pr a = pr b) : a = b := by rw [← val_pr a, ← val_pr b, h]
def ba (l : List UInt8) : ByteArray := ⟨l.toArray⟩
def ls (s : ByteArray) : List UInt8 := s.data.toList
theorem ls_ba (l : List UInt8) : ls (ba l) = l := rfl
theorem ba_ls (s : ByteArray) : ba (ls s) = s := by cases s; rfl
theorem ba_app (a b : List UInt8) : ba (a ++ b) = ba a ++ ba b := by
  apply ByteArray.ext; simp [ba]
theorem ls_app (a b : ByteArray) : ls (a ++ b) = ls a ++ ls b := by simp [ls]
theorem ls_inj {a b : ByteArray} (h : ls a = ls b) : a = b := by rw [← ba_ls a, ← ba_ls b, h]
def prt (n : Int) : ByteArray := ba (pr n)
theorem prt_inj {a b : Int} (h : prt a = prt b) : a = b := pr_inj (by have := congrArg ls h; exact this)
theorem size_ls (s : ByteArray) : s.size = (ls s).length := Array.length_toList.symm
def can (s : ByteArray) : Prop := in64 (val (ls s)) ∧ pr (val (ls s)) = ls s
instance (s : ByteArray) : Decidable (can s) := by unfold can; exact inferInstance
theorem can_of {n : Int} {s : ByteArray} (h : in64 n) (e : prt n = s) : can s ∧ val (ls s) = n := by
  subst e
  have : ls (prt n) = pr n := rfl
  unfold can
  rw [this, val_pr]
  exact ⟨⟨h, rfl⟩, rfl⟩
theorem can_prt {s : ByteArray} (h : can s) : prt (val (ls s)) = s := by
  unfold prt; rw [h.2, ba_ls]
theorem pr_len {n : Int} (h : in64 n) : 1 ≤ (pr n).length ∧ (pr n).length ≤ 20 := by
  have h1 : ∀ m, 1 ≤ (dg m).length := fun m => by have := dg_ne m; cases h : dg m <;> simp_all
  unfold pr in64 at *
  split
  · have := h1 (-n).toNat
    have := dg_len 18 (-n).toNat (by omega)
    simp only [List.length_cons]; omega
  · have := h1 n.toNat
    have := dg_len 18 n.toNat (by omega)
    omega
theorem can_len {s : ByteArray} (h : can s) : 1 ≤ (s.size : Int) ∧ (s.size : Int) ≤ 20 := by
  have := pr_len h.1
  rw [h.2] at this
  rw [size_ls]; omega
/-! ### One step of print -/
def cc (d : Int) : ByteArray := ⟨#[UInt8.ofNat (IntKind.u8.wrap (IntKind.u64.wrap (48 + remD d 10))).toNat]⟩
theorem cc_is {d : Int} (h : 0 ≤ d) : cc d = ba [ch (d.toNat % 10)] := by
  have e : IntKind.u8.wrap (IntKind.u64.wrap (48 + remD d 10)) = ((48 + d.toNat % 10 : Nat) : Int) := by
    rw [rem_id _ _ h, IntKind.wrap_u64, IntKind.wrap_u8]; unfold md; omega
  unfold cc ch; rw [e]; rfl
def bd (d : Int) : ByteArray := ba (dg d.toNat)
theorem bd_ge {d e : Int} (h : 0 ≤ d) (he : e = d / 10) (h0 : e ≠ 0) : bd d = bd e ++ cc d := by
  unfold bd; rw [cc_is h, ← ba_app, dg_ge (by omega), show (d.toNat / 10) = e.toNat by omega]
theorem bd_lt {d e : Int} (h : 0 ≤ d) (he : e = d / 10) (h0 : e = 0) : bd d = cc d := by
  unfold bd; rw [cc_is h, dg_lt (by omega), Nat.mod_eq_of_lt (by omega)]
theorem app_nil (a : ByteArray) : a ++ (⟨#[]⟩ : ByteArray) = a := by apply ByteArray.ext; simp
theorem app_assoc (a b c : ByteArray) : a ++ b ++ c = a ++ (b ++ c) := by apply ByteArray.ext; simp
theorem prt_neg {n : Int} (h : n < 0) : prt n = ba [45] ++ bd (-n) := by unfold prt pr bd; rw [if_pos h, ← ba_app]; rfl
theorem prt_pos {n : Int} (h : ¬n < 0) : prt n = bd n := by unfold prt pr bd; rw [if_neg h]
theorem quo10 {a : Int} (h : 0 ≤ a) (h2 : a < 18446744073709551616) : quoD .u64 a 10 = a / 10 := by
  unfold quoD
  rw [Int.tdiv_eq_ediv_of_nonneg h, IntKind.wrap_u64]; omega
/-! ### The chapter's own print -/
def pre12 (k : Nat) (n : Int) : Prop := 1 ≤ k ∧ (0 ≤ n ∧ n < (10 ^ k : Nat) ∨ n < 0 ∧ 2 ≤ k ∧ -n < (10 ^ (k - 1) : Nat))
theorem pow_s {k : Nat} (h : 1 ≤ k) : 10 ^ k = 10 * 10 ^ (k - 1) := by
  obtain ⟨j, rfl⟩ : ∃ j, k = j + 1 := ⟨k - 1, by omega⟩
  rw [Nat.pow_succ, Nat.mul_comm]; rfl
theorem pow_1 (k : Nat) : 1 ≤ 10 ^ k := Nat.pos_of_ne_zero (by simp)
theorem pre_up {k : Nat} {n : Int} (h : pre12 (k + 1) n) (h1 : 10 ≤ n) : pre12 k (n / 10) ∧ pre12 k (n % 10) := by
  obtain ⟨_, ⟨_, h2⟩ | ⟨h2, _⟩⟩ := h
  · rw [Nat.pow_succ] at h2
    have hk : 1 ≤ k := by
      rcases Nat.eq_zero_or_pos k with rfl | hk
      · simp at h2; omega
      · exact hk
    have := pow_s hk
    have := pow_1 (k - 1)
    exact ⟨⟨hk, .inl ⟨by omega, by omega⟩⟩, hk, .inl ⟨by omega, by omega⟩⟩
  · omega
theorem pre_neg {k : Nat} {n : Int} (h : pre12 (k + 1) n) (h1 : n < 0) (h2 : -10 < n) : pre12 k (-n) := by
  obtain ⟨_, h3 | ⟨_, h3, h4⟩⟩ := h
  · omega
  · have := pow_s (k := k) (by omega)
    have := pow_1 (k - 1)
    exact ⟨by omega, .inl ⟨by omega, by omega⟩⟩
theorem pre_dn {k : Nat} {n : Int} (h : pre12 (k + 1) n) (h1 : n ≤ -10) : pre12 k (-(-n / 10)) ∧ pre12 k (-n % 10) := by
  obtain ⟨_, h3 | ⟨_, h3, h4⟩⟩ := h
  · omega
  · simp only [Nat.add_sub_cancel] at h4
    have hk : 2 ≤ k := by
      rcases Nat.lt_or_ge k 2 with h5 | h5
      · obtain rfl : k = 1 := by omega
        simp at h4; omega
      · exact h5
    have := pow_s (k := k) (by omega)
    have := pow_1 (k - 1)
    exact ⟨⟨by omega, .inr ⟨by omega, hk, by omega⟩⟩, by omega, .inl ⟨by omega, by omega⟩⟩
theorem pre_64 {n : Int} (h : in64 n) : pre12 21 n := by
  unfold pre12 in64 at *
  have e1 : (10 ^ 21 : Nat) = 1000000000000000000000 := by decide
  have e2 : (10 ^ (21 - 1) : Nat) = 100000000000000000000 := by decide
  rw [e1, e2]; omega
theorem prt_one {n : Int} (h : 0 ≤ n) (h2 : n < 10) : prt n = ba [UInt8.ofNat (48 + n.toNat)] := by
  rw [prt_pos (by omega)]; unfold bd; rw [dg_lt (by omega)]; rfl
theorem prt_up {n : Int} (h : 10 ≤ n) : prt n = prt (n / 10) ++ prt (n % 10) := by
  rw [prt_pos (by omega), prt_pos (n := n / 10) (by omega), prt_pos (n := n % 10) (by omega)]
  unfold bd
  rw [dg_ge (by omega), ba_app, dg_lt (m := (n % 10).toNat) (by omega)]
  congr 3 <;> congr 1 <;> omega
theorem prt_ng {n : Int} (h : n < 0) : prt n = ba [45] ++ prt (-n) := by rw [prt_neg h, prt_pos (by omega)]
theorem prt_dn {n : Int} (h : n ≤ -10) : prt n = prt (-(-n / 10)) ++ prt (-n % 10) := by
  rw [prt_ng (by omega), prt_up (n := -n) (by omega), prt_ng (n := -(-n / 10)) (by omega), app_assoc, Int.neg_neg]
/-! ### What is read -/
theorem vl0_ge (a : Nat) (l : List UInt8) : a ≤ vl0 a l := by
  induction l generalizing a with
  | nil => exact Nat.le_refl _
  | cons c r ih => exact Nat.le_trans (by omega) (ih (10 * a + (c.toNat - 48)))
theorem pu_ok (l : List UInt8) (a : Nat) (h : ∀ c ∈ l, dig c) (hv : vl0 a l < 18446744073709551616) : Lib.parseUint10 a l = .ok (vl0 a l) := by
  induction l generalizing a with
  | nil => rfl
  | cons c r ih =>
    have hc := h c (by simp)
    have hg := vl0_ge (10 * a + (c.toNat - 48)) r
    have e : vl0 a (c :: r) = vl0 (10 * a + (c.toNat - 48)) r := rfl
    rw [e] at hv ⊢
    unfold dig at hc
    unfold Lib.parseUint10
    rw [if_pos hc, if_neg (by omega), if_neg (by omega), show a * 10 + (c.toNat - 48) = 10 * a + (c.toNat - 48) by omega]
    exact ih _ (fun c hc => h c (by simp [hc])) hv
theorem atoi_pr {n : Int} (h : in64 n) : Lib.atoiAll (pr n) = .ok n := by
  unfold in64 at h
  have pm : ∀ m : Nat, m < 18446744073709551616 → Lib.parseMag (dg m) = .ok m := fun m hm => by
    unfold Lib.parseMag
    rw [if_neg (dg_ne m), pu_ok _ _ (dg_dig m) (by rw [show vl0 0 (dg m) = m from vl_dg m]; exact hm), show vl0 0 (dg m) = m from vl_dg m]
  unfold pr
  split
  · rename_i hn
    simp only [Lib.atoiAll]
    rw [if_pos (.inr rfl), pm _ (by omega)]
    simp only []
    rw [if_neg (by simp), if_neg (by omega), if_pos (by decide)]
    congr 1; omega
  · rename_i hn
    have hd := dg_dig n.toNat
    have hp := pm n.toNat (by omega)
    cases e : dg n.toNat with
    | nil => exact absurd e (dg_ne _)
    | cons c r =>
      rw [e] at hd hp
      have hc := hd c (by simp)
      unfold dig at hc
      simp only [Lib.atoiAll]
      rw [if_neg (by omega), hp]
      simp only []
      rw [if_neg (by omega), if_neg (by omega), if_neg (by omega)]
      congr 1; omega
theorem atoi_can {s : ByteArray} (h : can s) : Lib.atoiAll (ls s) = .ok (val (ls s)) := by
  have := atoi_pr h.1
  rwa [h.2] at this
/-- What is not a sign ahead is a digit. -/
theorem pr_dig {n : Int} {i : Nat} {c : UInt8} (h : (pr n)[i]? = some c) : dig c ∨ i = 0 ∧ c = 45 := by
  unfold pr at h
  split at h
  · cases i with
    | zero => simp at h; exact .inr ⟨rfl, h.symm⟩
    | succ i => exact .inl (dg_dig _ c (List.mem_of_getElem? (by simpa using h)))
  · exact .inl (dg_dig _ c (List.mem_of_getElem? h))
end Go.Proofs.YtamjocnlhhhijaaK
