/- The symbolic executor, at work: what was laid is read as it was; what was read is laid as it was; a bit that is turned is told. No condition. -/
import Derived.Test.YtfpjabhlfjkhfaaI4h
import Derived.Test.YtfpjabhlfjkhfaaFl
namespace Go.Proofs.Ytfpjabhlfjkhfaa.Sx
open Go
set_option linter.unusedSimpArgs false
set_option linter.unusedVariables false
set_option linter.unusedSectionVars false
set_option maxRecDepth 10000
set_option maxHeartbeats 2000000

theorem icL_at (k c r : Nat) (l : List UInt8) (x : Nat) (hk : k < 256) (hc : c < 256) (hr : r < 4294967296) :
    ((icL k c r l x).getD 0 0).toNat = k ∧ ((icL k c r l x).getD 1 0).toNat = c ∧ get4 (icL k c r l x) 4 = r ∧ (icL k c r l x).drop 8 = l := by
  refine ⟨?_, ?_, ?_, rfl⟩
  · show (UInt8.ofNat k).toNat = k
    rw [UInt8.toNat_ofNat']; omega
  · show (UInt8.ofNat c).toNat = c
    rw [UInt8.toNat_ofNat']; omega
  · show ((((UInt8.ofNat (r / 16777216)).toNat * 256 + (UInt8.ofNat (r / 65536)).toNat) * 256 + (UInt8.ofNat (r / 256)).toNat) * 256 + (UInt8.ofNat r).toNat) = r
    simp only [UInt8.toNat_ofNat']
    omega

/-- What was laid is well. -/
theorem icL_ok (k c r : Nat) (l : List UInt8) (hk : k < 256) (hc : c < 256) (hr : r < 4294967296) : isum ((icL k c r l (isum (icL k c r l 0))).take 2 ++ (icL k c r l (isum (icL k c r l 0))).drop 4) = n16 (icL k c r l (isum (icL k c r l 0))) 2 := by
  obtain ⟨h1, h2, h3, h4⟩ := icL_at k c r l (isum (icL k c r l 0)) hk hc hr
  refine (form_eq (by rw [icL_len]; omega)).1 ?_
  rw [h1, h2, h3, h4]

theorem idec_icL (k c r : Nat) (l : List UInt8) (hk : rightB k = true) (hc : c < 256) (hr : r < 4294967296) (hl : l.length ≤ 1472) : idecR (icL k c r l (isum (icL k c r l 0))) = ⟨k, c, r, l, 0⟩ := by
  have hk' := right_lt hk
  obtain ⟨h1, h2, h3, h4⟩ := icL_at k c r l (isum (icL k c r l 0)) (by omega) hc hr
  have h5 := icL_ok k c r l (by omega) hc hr
  have h6 := icL_len k c r l (isum (icL k c r l 0))
  unfold idecR
  rw [if_neg (by omega), if_neg (by omega), if_neg (fun h => h h5), h1, if_neg (by rw [hk]; decide), h2, h3, h4]

theorem ienc_idec (l : List UInt8) (h : (idecR l).e = 0) : iencR (idecR l).k (idecR l).c (idecR l).r (idecR l).l = (l, 0) ∧ (idecR l).r < 4294967296 := by
  unfold idecR at h ⊢
  split at h
  · exact absurd h (by decide)
  next g1 =>
  split at h
  · exact absurd h (by decide)
  next g2 =>
  split at h
  · exact absurd h (by decide)
  next g3 =>
  split at h
  · exact absurd h (by decide)
  next g4 =>
  rw [if_neg g1, if_neg g2, if_neg g3, if_neg g4]
  have b0 := (l.getD 0 0).toNat_lt
  have b1 := (l.getD 1 0).toNat_lt
  have hg : get4 l 4 < 4294967296 := by
    have := (l.getD 4 0).toNat_lt
    have := (l.getD (4 + 1) 0).toNat_lt
    have := (l.getD (4 + 2) 0).toNat_lt
    have := (l.getD (4 + 3) 0).toNat_lt
    unfold get4; omega
  refine ⟨?_, hg⟩
  unfold iencR
  rw [if_neg g4, if_neg (by dsimp only; omega), if_neg (by simp; omega)]
  simp only [Int.toNat_natCast]
  rw [(form_eq (by omega)).2 (Classical.byContradiction fun h => g3 h)]

theorem set_take_drop {l : List UInt8} {x : UInt8} {i : Nat} (h : 4 ≤ l.length) : (i < 2 → (l.set i x).take 2 ++ (l.set i x).drop 4 = (l.take 2 ++ l.drop 4).set i x) ∧ (4 ≤ i → (l.set i x).take 2 ++ (l.set i x).drop 4 = (l.take 2 ++ l.drop 4).set (i - 2) x) ∧ (2 ≤ i ∧ i < 4 → (l.set i x).take 2 ++ (l.set i x).drop 4 = l.take 2 ++ l.drop 4) := by
  match l, h with
  | a :: b :: c :: d :: t, _ =>
    refine ⟨fun h => ?_, fun h => ?_, fun h => ?_⟩
    · match i, h with
      | 0, _ | 1, _ => rfl
    · obtain ⟨j, rfl⟩ := Nat.exists_eq_add_of_le h
      rw [show 4 + j = j + 1 + 1 + 1 + 1 by omega, show j + 1 + 1 + 1 + 1 - 2 = j + 1 + 1 by omega]
      rfl
    · match i, h with
      | 2, _ | 3, _ => rfl
      | 0, h | 1, h => omega
      | _ + 4, h => omega

/-- A bit that is turned is told. -/
theorem idec_flip {l : List UInt8} (h8 : 8 ≤ l.length) (hl : l.length ≤ 1480) (hok : isum (l.take 2 ++ l.drop 4) = n16 l 2) {i j : Nat} {x : UInt8} (hi : i < l.length) (hj : j < 8)
    (hx : x.toNat = (l.getD i 0).toNat + 2 ^ j ∨ x.toNat + 2 ^ j = (l.getD i 0).toNat) : idecR (l.set i x) = ⟨0, 0, 0, [], 93⟩ := by
  have hn : (l.set i x).length = l.length := List.length_set
  have hb : isum ((l.set i x).take 2 ++ (l.set i x).drop 4) ≠ n16 (l.set i x) 2 := by
    obtain ⟨s1, s2, s3⟩ := set_take_drop (x := x) (i := i) (l := l) (by omega)
    have gne : ∀ k, k ≠ i → (l.set i x).getD k 0 = l.getD k 0 := fun k hk => by
      rw [List.getD_eq_getElem?_getD, List.getElem?_set_ne (Ne.symm hk), ← List.getD_eq_getElem?_getD]
    have geq : (l.set i x).getD i 0 = x := by
      rw [List.getD_eq_getElem?_getD, List.getElem?_set_self hi]; rfl
    have hlen : (l.take 2 ++ l.drop 4).length = l.length - 2 := by simp; omega
    have gapp1 : i < 2 → (l.take 2 ++ l.drop 4).getD i 0 = l.getD i 0 := fun h => by
      rw [List.getD_eq_getElem?_getD, List.getElem?_append_left (by simp; omega), List.getElem?_take_of_lt h, ← List.getD_eq_getElem?_getD]
    have gapp2 : 4 ≤ i → (l.take 2 ++ l.drop 4).getD (i - 2) 0 = l.getD i 0 := fun h => by
      rw [List.getD_eq_getElem?_getD, List.getElem?_append_right (by simp; omega), List.getElem?_drop, List.length_take, Nat.min_eq_left (by omega), show 4 + (i - 2 - 2) = i by omega, ← List.getD_eq_getElem?_getD]
    by_cases c1 : i < 2
    · rw [s1 c1]
      have : n16 (l.set i x) 2 = n16 l 2 := by unfold n16; rw [gne 2 (by omega), gne (2 + 1) (by omega)]
      rw [this, ← hok]
      exact isum_flip (by omega) hj (by rw [gapp1 c1]; exact hx)
    by_cases c2 : 4 ≤ i
    · rw [s2 c2]
      have : n16 (l.set i x) 2 = n16 l 2 := by unfold n16; rw [gne 2 (by omega), gne (2 + 1) (by omega)]
      rw [this, ← hok]
      exact isum_flip (by omega) hj (by rw [gapp2 c2]; exact hx)
    · rw [s3 (by omega), hok]
      have hp := pow_lt8 hj
      by_cases c3 : i = 2
      · subst c3
        unfold n16
        rw [geq, gne (2 + 1) (by omega)]
        omega
      · obtain rfl : i = 3 := by omega
        unfold n16
        rw [gne 2 (by omega)]
        show _ ≠ _ + ((l.set 3 x).getD 3 0).toNat
        rw [geq]
        show _ + (l.getD 3 0).toNat ≠ _
        omega
  unfold idecR
  rw [if_neg (by omega), if_neg (by omega), if_pos hb]

theorem ienc_ok {k c : Int} {r : Nat} {l : List UInt8} (h : (iencR k c r l).2 = 0) : ∃ k' c' : Nat, k = k' ∧ c = c' ∧ rightB k' = true ∧ c' < 256 ∧ l.length ≤ 1472 ∧ (iencR k c r l).1 = icL k' c' r l (isum (icL k' c' r l 0)) := by
  unfold iencR at h ⊢
  split at h
  · exact absurd h (by decide)
  next g1 =>
  split at h
  · exact absurd h (by decide)
  next g2 =>
  split at h
  · exact absurd h (by decide)
  next g3 =>
  rw [if_neg g1, if_neg g2, if_neg g3]
  have hk : rightB k = true := by cases hr : rightB k <;> simp_all
  have := right_lt hk
  refine ⟨k.toNat, c.toNat, by omega, by omega, ?_, by omega, by omega, rfl⟩
  rw [Int.toNat_of_nonneg this.1]; exact hk

theorem answ_facts (k c : Int) (r : Nat) (l : List UInt8) (hr : r < 4294967296) : ∃ (r' : Nat) (l' : List UInt8) (b : Bool), answR k c r l = ⟨0, 0, r', l', b⟩ ∧ r' < 4294967296 ∧ l'.length ≤ l.length ∧ (b = true → l' = l) := by
  unfold answR
  split
  · exact ⟨0, [], false, rfl, by omega, by simp, fun h => absurd h (by decide)⟩
  · exact ⟨r, l, true, rfl, hr, Nat.le_refl _, fun _ => rfl⟩
theorem ienc_0 {r : Nat} {l : List UInt8} (hl : l.length ≤ 1472) : ∃ X : List UInt8, iencR 0 0 r l = (X, 0) ∧ X.length = 8 + l.length := by
  refine ⟨icL 0 0 r l (isum (icL 0 0 r l 0)), ?_, icL_len ..⟩
  unfold iencR
  rw [if_neg (by decide), if_neg (by omega), if_neg (by omega)]
  rfl

end Go.Proofs.Ytfpjabhlfjkhfaa.Sx
