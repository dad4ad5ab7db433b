/- The symbolic executor, at work: heads that were laid are read as they were, heads that were read are laid as they were, a bit that is turned is told. No condition. -/
import Derived.Test.YtipbnhgeanlkeaaN9j
import Derived.Test.YtipbnhgeanlkeaaFl
namespace Go.Proofs.Ytipbnhgeanlkeaa.Sx
open Go
set_option linter.unusedSimpArgs false
set_option linter.unusedVariables false
set_option linter.unusedSectionVars false
set_option maxRecDepth 10000
set_option maxHeartbeats 2000000

theorem be2_num {n : Nat} (h : n < 65536) : (UInt8.ofNat (n / 256)).toNat * 256 + (UInt8.ofNat n).toNat = n := by
  simp only [UInt8.toNat_ofNat']; omega
theorem be4_num {n : Nat} (h : n < 4294967296) : (((UInt8.ofNat (n / 16777216)).toNat * 256 + (UInt8.ofNat (n / 65536)).toNat) * 256 + (UInt8.ofNat (n / 256)).toNat) * 256 + (UInt8.ofNat n).toNat = n := by
  simp only [UInt8.toNat_ofNat']; omega
theorem wsum_mid (A B : List UInt8) (s : Nat) (hA : A.length = 10) (hs : s < 65536) : wsum 0 (A ++ ([UInt8.ofNat (s / 256), UInt8.ofNat s] ++ B)) = wsum 0 A + s + wsum 12 B := by
  have b := be2_num hs
  rw [wsum_app, wsum_app, hA]
  have e1 : wsum (0 + 10) [UInt8.ofNat (s / 256), UInt8.ofNat s] = s := by simp only [wsum]; simp at b ⊢; omega
  rw [e1]
  show _ + (s + wsum 12 B) = _
  omega
theorem wsum_head (h : IP) (n s : Nat) (hs : s < 65536) : wsum 0 (headL h n s) = wsum 0 (headL h n 0) + s ∧ 0 < wsum 0 (headL h n 0) := by
  have key : ∀ s, headL h n s = (69 :: ((headL h n 0).take 10).tail) ++ ([UInt8.ofNat (s / 256), UInt8.ofNat s] ++ (headL h n 0).drop 12) := fun _ => rfl
  have kl : (69 :: ((headL h n 0).take 10).tail).length = 10 := rfl
  have k0 := wsum_mid (69 :: ((headL h n 0).take 10).tail) ((headL h n 0).drop 12) 0 kl (by omega)
  have ks := wsum_mid (69 :: ((headL h n 0).take 10).tail) ((headL h n 0).drop 12) s kl hs
  rw [← key] at k0 ks
  have e2 : 69 * 256 ≤ wsum 0 (69 :: ((headL h n 0).take 10).tail) := by
    simp only [wsum]
    simp
  omega
theorem isum_head (h : IP) (n : Nat) : isum (headL h n (isum (headL h n 0))) = 0 := by
  have h1 := isum_le (headL h n 0)
  obtain ⟨h2, h3⟩ := wsum_head h n (isum (headL h n 0)) (by omega)
  have h4 := fold_le (wsum 0 (headL h n 0))
  show 65535 - fold _ = 0
  rw [h2]
  show 65535 - fold (_ + (65535 - fold _)) = 0
  generalize wsum 0 (headL h n 0) = W at *
  unfold fold at *
  rw [if_neg (by omega)] at h4 ⊢
  rw [if_neg (by omega)]
  omega

theorem flag_keep (k : Bool) : flagN k < 65536 ∧ flagN k % 16384 = 0 ∧ decide (flagN k / 16384 % 2 = 1) = k := by cases k <;> decide

theorem dec_enc {h : IP} {l : List UInt8} (z : List UInt8) (hE : encE h l = 0) (hs : h.src < 4294967296) (hd : h.dst < 4294967296) : decE (encL h l ++ z) = 0 ∧ decI (encL h l ++ z) = h ∧ decD (encL h l ++ z) = l := by
  unfold encE at hE
  split at hE
  · cases hE
  next hb =>
  split at hE
  · cases hE
  next hl =>
  obtain ⟨t, i, u, p, h1, h2, h3, h4, b1, b2, b3, b4, b5⟩ := good_of hb
  obtain ⟨tos, id, ttl, proto, keep, src, dst⟩ := h
  dsimp only at h1 h2 h3 h4 hs hd
  subst h1 h2 h3 h4
  obtain ⟨f1, f2, f3⟩ := flag_keep keep
  have hsum := isum_head ⟨t, i, u, p, keep, src, dst⟩ (20 + l.length)
  unfold encL
  have hs' := isum_le (headL ⟨t, i, u, p, keep, src, dst⟩ (20 + l.length) 0)
  generalize isum (headL ⟨t, i, u, p, keep, src, dst⟩ (20 + l.length) 0) = sm at *
  have hlen := headL_len ⟨t, i, u, p, keep, src, dst⟩ (20 + l.length) sm
  have g0 : ((headL ⟨t, i, u, p, keep, src, dst⟩ (20 + l.length) sm ++ l ++ z).getD 0 0).toNat = 69 := rfl
  have g1 : ((headL ⟨t, i, u, p, keep, src, dst⟩ (20 + l.length) sm ++ l ++ z).getD 1 0).toNat = t := by
    show (UInt8.ofNat t).toNat = t
    rw [UInt8.toNat_ofNat']; omega
  have g2 : n16 (headL ⟨t, i, u, p, keep, src, dst⟩ (20 + l.length) sm ++ l ++ z) 2 = 20 + l.length := be2_num (by omega)
  have g4 : n16 (headL ⟨t, i, u, p, keep, src, dst⟩ (20 + l.length) sm ++ l ++ z) 4 = i := be2_num (n := i) (by omega)
  have g6 : n16 (headL ⟨t, i, u, p, keep, src, dst⟩ (20 + l.length) sm ++ l ++ z) 6 = flagN keep := be2_num f1
  have g8 : ((headL ⟨t, i, u, p, keep, src, dst⟩ (20 + l.length) sm ++ l ++ z).getD 8 0).toNat = u := by
    show (UInt8.ofNat u).toNat = u
    rw [UInt8.toNat_ofNat']; omega
  have g9 : ((headL ⟨t, i, u, p, keep, src, dst⟩ (20 + l.length) sm ++ l ++ z).getD 9 0).toNat = p := by
    show (UInt8.ofNat p).toNat = p
    rw [UInt8.toNat_ofNat']; omega
  have g12 : get4 (headL ⟨t, i, u, p, keep, src, dst⟩ (20 + l.length) sm ++ l ++ z) 12 = src := be4_num hs
  have g16 : get4 (headL ⟨t, i, u, p, keep, src, dst⟩ (20 + l.length) sm ++ l ++ z) 16 = dst := be4_num hd
  have gt : (headL ⟨t, i, u, p, keep, src, dst⟩ (20 + l.length) sm ++ l ++ z).take 20 = headL ⟨t, i, u, p, keep, src, dst⟩ (20 + l.length) sm := by
    rw [List.append_assoc, List.take_left' hlen]
  have gl : (headL ⟨t, i, u, p, keep, src, dst⟩ (20 + l.length) sm ++ l ++ z).length = 20 + l.length + z.length := by simp [hlen]; omega
  have gd : ((headL ⟨t, i, u, p, keep, src, dst⟩ (20 + l.length) sm ++ l ++ z).take (20 + l.length)).drop 20 = l := by
    rw [List.take_left' (by simp [hlen]), List.drop_left' hlen]
  generalize headL ⟨t, i, u, p, keep, src, dst⟩ (20 + l.length) sm ++ l ++ z = X at *
  have e0 : decE X = 0 := by
    unfold decE
    rw [if_neg (by omega), if_neg (by omega), if_neg (by omega), if_neg (by omega), gt, hsum, if_neg (by omega), if_neg (by omega), if_neg (by omega)]
  refine ⟨e0, ?_, ?_⟩
  · unfold decI decH0
    rw [if_pos e0, g1, g4, g8, g9, g6, f3, g12, g16]
  · unfold decD
    rw [if_pos e0, g2, gd]

theorem dec_sum {l : List UInt8} (h : isum (l.take 20) ≠ 0) : decE l ≠ 0 := by
  unfold decE
  repeat' split
  all_goals (first | decide | contradiction)
theorem dec_flip {h : IP} {l : List UInt8} (z : List UInt8) {i j : Nat} {x : UInt8} (hi : i < 20) (hj : j < 8) (hx : x.toNat = ((encL h l).getD i 0).toNat + 2 ^ j ∨ x.toNat + 2 ^ j = ((encL h l).getD i 0).toNat) : decE ((encL h l).set i x ++ z) ≠ 0 := by
  refine dec_sum ?_
  have hlen := headL_len h (20 + l.length) (isum (headL h (20 + l.length) 0))
  have hsum := isum_head h (20 + l.length)
  unfold encL at *
  generalize headL h (20 + l.length) (isum (headL h (20 + l.length) 0)) = X at *
  rw [List.getD_eq_getElem?_getD, List.getElem?_append_left (by omega), ← List.getD_eq_getElem?_getD] at hx
  rw [List.set_append_left _ _ (by omega), List.append_assoc, List.take_left' (by simpa using hlen), ← hsum]
  exact isum_flip (by omega) hj hx

theorem twenty {l : List UInt8} (h : 20 ≤ l.length) : ∃ a0 a1 a2 a3 a4 a5 a6 a7 a8 a9 a10 a11 a12 a13 a14 a15 a16 a17 a18 a19 t, l = a0 :: a1 :: a2 :: a3 :: a4 :: a5 :: a6 :: a7 :: a8 :: a9 :: a10 :: a11 :: a12 :: a13 :: a14 :: a15 :: a16 :: a17 :: a18 :: a19 :: t := by
  have ten : ∀ {l : List UInt8}, 10 ≤ l.length → ∃ a0 a1 a2 a3 a4 a5 a6 a7 a8 a9 t, l = a0 :: a1 :: a2 :: a3 :: a4 :: a5 :: a6 :: a7 :: a8 :: a9 :: t := by
    intro l h
    match l, h with
    | a0 :: a1 :: a2 :: a3 :: a4 :: a5 :: a6 :: a7 :: a8 :: a9 :: t, _ => exact ⟨_, _, _, _, _, _, _, _, _, _, _, rfl⟩
  obtain ⟨a0, a1, a2, a3, a4, a5, a6, a7, a8, a9, t, rfl⟩ := ten (l := l) (by omega)
  obtain ⟨b0, b1, b2, b3, b4, b5, b6, b7, b8, b9, t, rfl⟩ := ten (l := t) (by simp only [List.length_cons] at h; omega)
  exact ⟨_, _, _, _, _, _, _, _, _, _, _, _, _, _, _, _, _, _, _, _, _, rfl⟩
theorem be2_of (a b : UInt8) : [UInt8.ofNat ((a.toNat * 256 + b.toNat) / 256), UInt8.ofNat (a.toNat * 256 + b.toNat)] = [a, b] := by
  have ha := a.toNat_lt
  have hb := b.toNat_lt
  simp only [List.cons.injEq, and_true, ← UInt8.toNat_inj, UInt8.toNat_ofNat']
  omega
theorem be4_of (a b c d : UInt8) : be4 (((a.toNat * 256 + b.toNat) * 256 + c.toNat) * 256 + d.toNat) = [a, b, c, d] := by
  have ha := a.toNat_lt
  have hb := b.toNat_lt
  have hc := c.toNat_lt
  have hd := d.toNat_lt
  simp only [be4, List.cons.injEq, and_true, ← UInt8.toNat_inj, UInt8.toNat_ofNat']
  omega

theorem decE_0 {l : List UInt8} (h : decE l = 0) : 20 ≤ l.length ∧ (l.getD 0 0).toNat = 69 ∧ 20 ≤ n16 l 2 ∧ n16 l 2 ≤ l.length ∧ isum (l.take 20) = 0 ∧ n16 l 6 % 16384 = 0 ∧ (l.getD 8 0).toNat ≠ 0 := by
  unfold decE at h
  repeat' split at h
  all_goals (first | (exact absurd h (by decide)) | skip)
  omega

/-- A head that was read is laid as it was, but for what is not of it. -/
theorem enc_dec {l : List UInt8} (h : decE l = 0) : decD l = (l.take (n16 l 2)).drop 20 ∧ 20 + (decD l).length = n16 l 2 ∧ n16 l 2 ≤ l.length ∧ 20 ≤ l.length ∧ (decI l).src < 4294967296 ∧ (decI l).dst < 4294967296 ∧ ¬ badH (decI l)
    ∧ ((l.getD 6 0).toNat < 128 → (¬ ((l.getD 10 0).toNat = 255 ∧ (l.getD 11 0).toNat = 255) → encL (decI l) (decD l) = l.take (n16 l 2))
      ∧ ((l.getD 10 0).toNat = 255 → (l.getD 11 0).toNat = 255 → encL (decI l) (decD l) = ((l.take (n16 l 2)).set 10 0).set 11 0)) := by
  obtain ⟨h1, h2, h3, h4, h5, h6, h7⟩ := decE_0 h
  have eD : decD l = (l.take (n16 l 2)).drop 20 := if_pos h
  have eI : decI l = decH0 l := if_pos h
  have lD : 20 + ((l.take (n16 l 2)).drop 20).length = n16 l 2 := by simp; omega
  have b1 := (l.getD 1 0).toNat_lt
  have b8 := (l.getD 8 0).toNat_lt
  have b9 := (l.getD 9 0).toNat_lt
  refine ⟨eD, by rw [eD]; exact lD, h4, h1, by rw [eI]; exact get4_lt l 12, by rw [eI]; exact get4_lt l 16, by rw [eI]; have := n16_lt l 4; unfold badH decH0; dsimp only; omega, fun h128 => ?_⟩
  rw [eD, eI]
  unfold encL
  rw [lD]
  have hb : ∀ D : List UInt8, D = (l.take (n16 l 2)).drop 20 → l.take (n16 l 2) = l.take 20 ++ D := by
    rintro _ rfl
    conv => lhs; rw [← List.take_append_drop 20 (l.take (n16 l 2))]
    rw [List.take_take, Nat.min_eq_left h3]
  generalize hDD : (l.take (n16 l 2)).drop 20 = D at *
  rw [hb D rfl]
  clear hb hDD lD eD eI b1 b8 b9 h
  obtain ⟨a0, a1, a2, a3, a4, a5, a6, a7, a8, a9, a10, a11, a12, a13, a14, a15, a16, a17, a18, a19, t, rfl⟩ := twenty h1
  have k0 : a0 = 69 := by rw [← UInt8.toNat_inj]; exact h2
  subst k0
  have key : ∀ s, headL (decH0 (69 :: a1 :: a2 :: a3 :: a4 :: a5 :: a6 :: a7 :: a8 :: a9 :: a10 :: a11 :: a12 :: a13 :: a14 :: a15 :: a16 :: a17 :: a18 :: a19 :: t)) (n16 (69 :: a1 :: a2 :: a3 :: a4 :: a5 :: a6 :: a7 :: a8 :: a9 :: a10 :: a11 :: a12 :: a13 :: a14 :: a15 :: a16 :: a17 :: a18 :: a19 :: t) 2) s = [69, a1, a2, a3, a4, a5, a6, a7, a8, a9] ++ ([UInt8.ofNat (s / 256), UInt8.ofNat s] ++ [a12, a13, a14, a15, a16, a17, a18, a19]) := by
    intro s
    have f : be2 (flagN (decide (n16 (69 :: a1 :: a2 :: a3 :: a4 :: a5 :: a6 :: a7 :: a8 :: a9 :: a10 :: a11 :: a12 :: a13 :: a14 :: a15 :: a16 :: a17 :: a18 :: a19 :: t) 6 / 16384 % 2 = 1))) = [a6, a7] := by
      rw [← be2_of a6 a7]
      have e : n16 (69 :: a1 :: a2 :: a3 :: a4 :: a5 :: a6 :: a7 :: a8 :: a9 :: a10 :: a11 :: a12 :: a13 :: a14 :: a15 :: a16 :: a17 :: a18 :: a19 :: t) 6 = a6.toNat * 256 + a7.toNat := rfl
      rw [e] at h6 ⊢
      have h128 : a6.toNat < 128 := h128
      have := a7.toNat_lt
      have e2 : flagN (decide ((a6.toNat * 256 + a7.toNat) / 16384 % 2 = 1)) = a6.toNat * 256 + a7.toNat := by
        unfold flagN
        by_cases c : (a6.toNat * 256 + a7.toNat) / 16384 % 2 = 1
        · simp only [c, decide_true, if_true]; omega
        · simp only [c, decide_false]; simp; omega
      rw [e2]
    have f1 : UInt8.ofNat ((a1.toNat : Int)).toNat = a1 := by simp
    have f8 : UInt8.ofNat ((a8.toNat : Int)).toNat = a8 := by simp
    have f9 : UInt8.ofNat ((a9.toNat : Int)).toNat = a9 := by simp
    have e2 := be2_of a2 a3
    have e4 := be2_of a4 a5
    have e12 := be4_of a12 a13 a14 a15
    have e16 := be4_of a16 a17 a18 a19
    unfold headL
    rw [show (decH0 (69 :: a1 :: a2 :: a3 :: a4 :: a5 :: a6 :: a7 :: a8 :: a9 :: a10 :: a11 :: a12 :: a13 :: a14 :: a15 :: a16 :: a17 :: a18 :: a19 :: t)).keep = decide (n16 (69 :: a1 :: a2 :: a3 :: a4 :: a5 :: a6 :: a7 :: a8 :: a9 :: a10 :: a11 :: a12 :: a13 :: a14 :: a15 :: a16 :: a17 :: a18 :: a19 :: t) 6 / 16384 % 2 = 1) from rfl, f]
    show [69, UInt8.ofNat ((a1.toNat : Int)).toNat] ++ ([UInt8.ofNat ((a2.toNat * 256 + a3.toNat) / 256), UInt8.ofNat (a2.toNat * 256 + a3.toNat)] ++ ([UInt8.ofNat ((a4.toNat * 256 + a5.toNat) / 256), UInt8.ofNat (a4.toNat * 256 + a5.toNat)] ++ ([a6, a7] ++ ([UInt8.ofNat ((a8.toNat : Int)).toNat, UInt8.ofNat ((a9.toNat : Int)).toNat] ++ (be2 s ++ (be4 (((a12.toNat * 256 + a13.toNat) * 256 + a14.toNat) * 256 + a15.toNat) ++ be4 (((a16.toNat * 256 + a17.toNat) * 256 + a18.toNat) * 256 + a19.toNat))))))) = _
    rw [f1, f8, f9, e2, e4, e12, e16]
    rfl
  have h10 := a10.toNat_lt
  have h11 := a11.toNat_lt
  have ht : (69 :: a1 :: a2 :: a3 :: a4 :: a5 :: a6 :: a7 :: a8 :: a9 :: a10 :: a11 :: a12 :: a13 :: a14 :: a15 :: a16 :: a17 :: a18 :: a19 :: t).take 20 = [69, a1, a2, a3, a4, a5, a6, a7, a8, a9] ++ ([UInt8.ofNat ((a10.toNat * 256 + a11.toNat) / 256), UInt8.ofNat (a10.toNat * 256 + a11.toNat)] ++ [a12, a13, a14, a15, a16, a17, a18, a19]) := by
    rw [be2_of]; rfl
  have w0 := wsum_mid [69, a1, a2, a3, a4, a5, a6, a7, a8, a9] [a12, a13, a14, a15, a16, a17, a18, a19] 0 rfl (by omega)
  have ws := wsum_mid [69, a1, a2, a3, a4, a5, a6, a7, a8, a9] [a12, a13, a14, a15, a16, a17, a18, a19] (a10.toNat * 256 + a11.toNat) rfl (by omega)
  have e2 : 69 * 256 ≤ wsum 0 [69, a1, a2, a3, a4, a5, a6, a7, a8, a9] := by
    simp only [wsum]
    simp
  rw [ht] at h5
  have hS : isum ([69, a1, a2, a3, a4, a5, a6, a7, a8, a9] ++ ([UInt8.ofNat (0 / 256), UInt8.ofNat 0] ++ [a12, a13, a14, a15, a16, a17, a18, a19])) = if a10.toNat * 256 + a11.toNat = 65535 then 0 else a10.toNat * 256 + a11.toNat := by
    unfold isum at h5 ⊢
    rw [w0]
    rw [ws] at h5
    have := fold_le (wsum 0 [69, a1, a2, a3, a4, a5, a6, a7, a8, a9] + (a10.toNat * 256 + a11.toNat) + wsum 12 [a12, a13, a14, a15, a16, a17, a18, a19])
    generalize wsum 0 [69, a1, a2, a3, a4, a5, a6, a7, a8, a9] = W1 at *
    generalize wsum 12 [a12, a13, a14, a15, a16, a17, a18, a19] = W2 at *
    have A : fold (W1 + (a10.toNat * 256 + a11.toNat) + W2) = 65535 := by omega
    clear h5 this
    have hS : a10.toNat * 256 + a11.toNat ≤ 65535 := by omega
    generalize a10.toNat * 256 + a11.toNat = S at *
    unfold fold at A ⊢
    split at A
    · cases A
    · rw [if_neg (by omega)]
      split <;> omega
  rw [key, key, hS]
  refine ⟨fun hn => ?_, fun c1 c2 => ?_⟩
  · have hn : ¬ (a10.toNat = 255 ∧ a11.toNat = 255) := hn
    rw [if_neg (by omega), ht]
  · have c1 : a10.toNat = 255 := c1
    have c2 : a11.toNat = 255 := c2
    rw [if_pos (by omega)]
    rfl

end Go.Proofs.Ytipbnhgeanlkeaa.Sx
