/- The symbolic executor, at work: datagrams, there and back, in plain numbers. No condition. -/
import Derived.Test.YtiefbdddjhigdaaU12i
import Derived.Test.YtiefbdddjhigdaaFl
namespace Go.Proofs.Ytiefbdddjhigdaa.Sx
open Go
set_option linter.unusedSimpArgs false
set_option linter.unusedVariables false
set_option maxRecDepth 10000
set_option maxHeartbeats 1000000
set_option linter.unusedSectionVars false

theorem wsum_par : ∀ (k k' : Nat) (m : List UInt8), k % 2 = k' % 2 → wsum k m = wsum k' m
  | _, _, [], _ => rfl
  | k, k', x :: m, h => by simp only [wsum, h, wsum_par (k + 1) (k' + 1) m (by omega)]
theorem wsum_be2 {n : Nat} (h : n < 65536) : wsum 0 (be2 n) = n := by
  show (if 0 % 2 = 0 then (UInt8.ofNat (n / 256)).toNat * 256 else (UInt8.ofNat (n / 256)).toNat) + ((if 1 % 2 = 0 then (UInt8.ofNat n).toNat * 256 else (UInt8.ofNat n).toNat) + 0) = n
  simp only [UInt8.toNat_ofNat']
  simp
  omega
theorem wsum_be4 {n : Nat} (h : n < 4294967296) : wsum 0 (be4 n) = n / 65536 + n % 65536 := by
  show (if 0 % 2 = 0 then (UInt8.ofNat (n / 16777216)).toNat * 256 else (UInt8.ofNat (n / 16777216)).toNat) + ((if 1 % 2 = 0 then (UInt8.ofNat (n / 65536)).toNat * 256 else (UInt8.ofNat (n / 65536)).toNat) + ((if 2 % 2 = 0 then (UInt8.ofNat (n / 256)).toNat * 256 else (UInt8.ofNat (n / 256)).toNat) + ((if 3 % 2 = 0 then (UInt8.ofNat n).toNat * 256 else (UInt8.ofNat n).toNat) + 0))) = _
  simp only [UInt8.toNat_ofNat']
  simp
  omega
theorem wsum_udp {s d x : Nat} {l : List UInt8} (hs : s < 65536) (hd : d < 65536) (hx : x < 65536) (hl : 8 + l.length < 65536) : wsum 0 (udpL s d l x) = s + d + (8 + l.length) + x + wsum 0 l := by
  unfold udpL
  rw [wsum_app, wsum_app, wsum_app, wsum_app, wsum_be2 hs]
  have e1 : (be2 s).length = 2 := rfl
  have e2 : (be2 s ++ be2 d).length = 4 := rfl
  have e3 : (be2 s ++ be2 d ++ be2 (8 + l.length)).length = 6 := rfl
  have e4 : (be2 s ++ be2 d ++ be2 (8 + l.length) ++ be2 x).length = 8 := rfl
  rw [e1, e2, e3, e4, wsum_par (0 + 2) 0 _ rfl, wsum_par (0 + 4) 0 _ rfl, wsum_par (0 + 6) 0 _ rfl, wsum_par (0 + 8) 0 _ rfl, wsum_be2 hd, wsum_be2 hl, wsum_be2 hx]
theorem wsum_over {src dst : Nat} {D : List UInt8} (h1 : src < 4294967296) (h2 : dst < 4294967296) (h3 : D.length < 65536) : wsum 0 (overL src dst D) = (src / 65536 + src % 65536) + (dst / 65536 + dst % 65536) + 17 + D.length + wsum 0 D := by
  unfold overL
  rw [wsum_app, wsum_app, wsum_app, wsum_app, wsum_be4 h1]
  have e1 : (be4 src).length = 4 := rfl
  have e2 : (be4 src ++ be4 dst).length = 8 := rfl
  have e3 : (be4 src ++ be4 dst ++ [0, 17]).length = 10 := rfl
  have e4 : (be4 src ++ be4 dst ++ [0, 17] ++ be2 D.length).length = 12 := rfl
  rw [e1, e2, e3, e4, wsum_par (0 + 4) 0 _ rfl, wsum_par (0 + 8) 0 _ rfl, wsum_par (0 + 10) 0 _ rfl, wsum_par (0 + 12) 0 _ rfl, wsum_be4 h2, wsum_be2 h3]
  rfl
/-- What a datagram weighs. -/
theorem wsum_all {src dst s d x : Nat} {l : List UInt8} (h1 : src < 4294967296) (h2 : dst < 4294967296) (hs : s < 65536) (hd : d < 65536) (hx : x < 65536) (hl : 8 + l.length < 65536) :
    wsum 0 (overL src dst (udpL s d l x)) = wsum 0 (overL src dst (udpL s d l 0)) + x ∧ 17 ≤ wsum 0 (overL src dst (udpL s d l 0)) := by
  rw [wsum_over h1 h2 (by rw [udpL_len]; omega), wsum_over h1 h2 (by rw [udpL_len]; omega), wsum_udp hs hd hx hl, wsum_udp hs hd (by omega) hl, udpL_len, udpL_len]
  omega

theorem isum_0 {l : List UInt8} : isum l = 0 ↔ fold (wsum 0 l) = 65535 := by
  have := fold_le (wsum 0 l)
  unfold isum
  omega
theorem fold_full {w : Nat} : fold w = 65535 ↔ 0 < w ∧ w % 65535 = 0 := by
  unfold fold
  split <;> omega
/-- The sum that is laid is the one that makes it full, and not zero. -/
theorem usum_iff {src dst s d y : Nat} {l : List UInt8} (h1 : src < 4294967296) (h2 : dst < 4294967296) (hs : s < 65536) (hd : d < 65536) (hl : 8 + l.length < 65536) (hy : 0 < y) (hy' : y < 65536) :
    isum (overL src dst (udpL s d l y)) = 0 ↔ usum src dst s d l = y := by
  obtain ⟨e, h17⟩ := wsum_all (src := src) (dst := dst) (x := y) h1 h2 hs hd hy' hl
  rw [isum_0, fold_full, e]
  have h0 : isum (overL src dst (udpL s d l 0)) = 65535 - fold (wsum 0 (overL src dst (udpL s d l 0))) := rfl
  unfold usum
  rw [h0]
  generalize wsum 0 (overL src dst (udpL s d l 0)) = w at h17 ⊢
  unfold fold
  rw [if_neg (show ¬ w = 0 by omega)]
  split <;> omega
theorem usum_pos (src dst s d : Nat) (l : List UInt8) : 0 < usum src dst s d l := by
  unfold usum
  split <;> omega

theorem n16_be {a : List UInt8} {n k : Nat} {t : List UInt8} (hk : a.length = k) (hn : n < 65536) : n16 (a ++ (be2 n ++ t)) k = n := by
  subst hk
  have e1 : (a ++ (be2 n ++ t)).getD a.length 0 = UInt8.ofNat (n / 256) := by
    rw [List.getD_eq_getElem?_getD, List.getElem?_append_right (Nat.le_refl _), Nat.sub_self]; rfl
  have e2 : (a ++ (be2 n ++ t)).getD (a.length + 1) 0 = UInt8.ofNat n := by
    rw [List.getD_eq_getElem?_getD, List.getElem?_append_right (by omega), Nat.add_sub_cancel_left]; rfl
  unfold n16
  rw [e1, e2]
  simp only [UInt8.toNat_ofNat']
  omega

section
variable {src dst s d : Nat} {l behind : List UInt8} (h1 : src < 4294967296) (h2 : dst < 4294967296) (hs : s < 65536) (hd : d < 65536) (hd0 : d ≠ 0) (hl : l.length ≤ 1472)
include h1 h2 hs hd hd0 hl
/-- What reading looks at, of what was laid. -/
theorem laid_at (x : Nat) (hx : x < 65536) : n16 (udpL s d l x ++ behind) 0 = s ∧ n16 (udpL s d l x ++ behind) 2 = d ∧ n16 (udpL s d l x ++ behind) 4 = 8 + l.length ∧ n16 (udpL s d l x ++ behind) 6 = x ∧
    (udpL s d l x ++ behind).take (8 + l.length) = udpL s d l x ∧ ((udpL s d l x ++ behind).take (8 + l.length)).drop 8 = l := by
  have e5 : (udpL s d l x ++ behind).take (8 + l.length) = udpL s d l x := by rw [← udpL_len s d l x, List.take_left' rfl]
  refine ⟨?_, ?_, ?_, ?_, e5, by rw [e5]; rfl⟩
  · exact n16_be (a := []) (n := s) (t := be2 d ++ be2 (8 + l.length) ++ be2 x ++ l ++ behind) rfl hs
  · exact n16_be (a := be2 s) (n := d) (t := be2 (8 + l.length) ++ be2 x ++ l ++ behind) rfl hd
  · exact n16_be (a := be2 s ++ be2 d) (n := 8 + l.length) (t := be2 x ++ l ++ behind) rfl (by omega)
  · exact n16_be (a := be2 s ++ be2 d ++ be2 (8 + l.length)) (n := x) (t := l ++ behind) rfl hx

theorem udec_laid : udecR src dst (udpL s d l (usum src dst s d l) ++ behind) = (s, d, l, 0) := by
  have hx := usum_lt src dst s d l
  have hp := usum_pos src dst s d l
  obtain ⟨g0, g2, g4, g6, gt, gd⟩ := laid_at (behind := behind) h1 h2 hs hd hd0 hl _ hx
  have hi := (usum_iff (l := l) h1 h2 hs hd (by omega) hp hx).2 rfl
  unfold udecR
  rw [g0, g2, g4, g6, gt, hi, if_neg (by simp [udpL]), if_neg (by simp [udpL]; omega), if_neg (by simp), if_neg hd0]
  rfl

/-- An address of which one bit is another one. -/
theorem udec_turned {src' dst' : Nat} (h1' : src' < 4294967296) (h2' : dst' < 4294967296) {k : Nat} (hk : k < 32)
    (h : (dst' = dst ∧ (src' = src + 2 ^ k ∨ src' + 2 ^ k = src)) ∨ (src' = src ∧ (dst' = dst + 2 ^ k ∨ dst' + 2 ^ k = dst))) : udecR src' dst' (udpL s d l (usum src dst s d l) ++ behind) = (0, 0, [], 93) := by
  have hx := usum_lt src dst s d l
  have hp := usum_pos src dst s d l
  obtain ⟨g0, g2, g4, g6, gt, gd⟩ := laid_at (behind := behind) h1 h2 hs hd hd0 hl _ hx
  have hi := (usum_iff (l := l) h1 h2 hs hd (by omega) hp hx).2 rfl
  have h3 := udpL_len s d l (usum src dst s d l)
  have hne : isum (overL src' dst' (udpL s d l (usum src dst s d l))) ≠ 0 := by
    have a := isum_0.1 hi
    rw [fold_full, wsum_over h1 h2 (by omega)] at a
    rw [Ne, isum_0, fold_full, wsum_over h1' h2' (by omega)]
    have hpk : ∀ k : Fin 32, 2 ^ k.val % 65535 ≠ 0 := by decide
    have hpk := hpk ⟨k, hk⟩
    dsimp only at hpk
    generalize 2 ^ k = p at h hpk
    omega
  unfold udecR
  rw [g0, g2, g4, g6, gt, if_neg (by simp [udpL]), if_neg (by simp [udpL]; omega), if_pos ⟨by omega, hne⟩]
end

theorem be2_n16 {l : List UInt8} {k : Nat} : be2 (n16 l k) = [l.getD k 0, l.getD (k + 1) 0] := by
  have := (l.getD k 0).toNat_lt
  have := (l.getD (k + 1) 0).toNat_lt
  unfold n16 be2
  simp only [List.cons.injEq, and_true, ← UInt8.toNat_inj, UInt8.toNat_ofNat']
  omega

theorem udecR_err {src dst : Nat} {l : List UInt8} : (udecR src dst l).2.2.2 ≠ 0 → udecR src dst l = (0, 0, [], (udecR src dst l).2.2.2) := by
  unfold udecR
  repeat' split
  all_goals simp

/-- What was read is laid as it was. -/
theorem udec_back {src dst : Nat} {l : List UInt8} (h1 : src < 4294967296) (h2 : dst < 4294967296) (h : (udecR src dst l).2.2.2 = 0) :
    ∃ (s d : Nat) (L : List UInt8) (n : Nat), udecR src dst l = (s, d, L, 0) ∧ s < 65536 ∧ d < 65536 ∧ d ≠ 0 ∧ n = 8 + L.length ∧ n ≤ l.length ∧ n < 65536 ∧ l.take n = udpL s d L (n16 l 6) ∧ (n16 l 6 ≠ 0 → usum src dst s d L = n16 l 6) := by
  unfold udecR at h ⊢
  split at h
  · exact absurd h (by decide)
  next g1 =>
  split at h
  · exact absurd h (by decide)
  next g2 =>
  split at h
  · exact absurd h (by decide)
  next g3 =>
  split at h
  · exact absurd h (by decide)
  next g4 =>
  rw [if_neg g1, if_neg g2, if_neg g3, if_neg g4]
  have w0 := n16_lt l 0
  have w2 := n16_lt l 2
  have w4 := n16_lt l 4
  have w6 := n16_lt l 6
  have hn : n16 l 4 = 8 + ((l.take (n16 l 4)).drop 8).length := by simp; omega
  have key : l.take (n16 l 4) = udpL (n16 l 0) (n16 l 2) ((l.take (n16 l 4)).drop 8) (n16 l 6) := by
    unfold udpL
    rw [← hn, be2_n16, be2_n16, be2_n16, be2_n16]
    obtain ⟨t, ht⟩ : ∃ t, t = l.take (n16 l 4) := ⟨_, rfl⟩
    have hg : ∀ k, k < 8 → l.getD k 0 = t.getD k 0 := fun k hk => by
      rw [ht, List.getD_eq_getElem?_getD, List.getD_eq_getElem?_getD, List.getElem?_take_of_lt (by omega)]
    rw [hg 0 (by omega), hg (0 + 1) (by omega), hg 2 (by omega), hg (2 + 1) (by omega), hg 4 (by omega), hg (4 + 1) (by omega), hg 6 (by omega), hg (6 + 1) (by omega), ← ht]
    have ht8 : 8 ≤ t.length := by rw [ht]; simp; omega
    clear ht hg hn g3
    match t, ht8 with
    | a0 :: a1 :: a2 :: a3 :: a4 :: a5 :: a6 :: a7 :: r, _ => rfl
  refine ⟨_, _, _, n16 l 4, rfl, w0, w2, g4, hn, by omega, w4, key, fun h6 => ?_⟩
  have hi : isum (overL src dst (l.take (n16 l 4))) = 0 := Classical.byContradiction fun h => g3 ⟨h6, h⟩
  rw [key] at hi
  exact (usum_iff h1 h2 w0 w2 (by omega) (by omega) w6).1 hi

end Go.Proofs.Ytiefbdddjhigdaa.Sx
