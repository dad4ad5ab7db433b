/- The symbolic executor, at work: the pieces of an option's bytes, by a range over a function. No condition. -/
import Derived.Test.YtflccffjfnfoiaaSxRg2
import Derived.Below
import Derived.Shelf.Abstract
import Derived.Test.YtflccffjfnfoiaaBf
import Derived.Test.YtflccffjfnfoiaaHp
namespace Go.Proofs.Ytflccffjfnfoiaa.Sx
open Go
set_option linter.unusedSimpArgs false
set_option linter.unusedVariables false
set_option maxRecDepth 10000
set_option maxHeartbeats 2000000

def boxC (d sp : List UInt8) (c j : Nat) : SC := .ro (bsR (d.drop (255 * j) ++ sp)) (d.length - 255 * j) (c - 255 * j)
def boxB (d sp : List UInt8) (c j : Nat) : SB := ⟨true, 25, [boxC d sp c j]⟩
def pieceC (d sp : List UInt8) (c j : Nat) : SC := .ro (bsR (d.drop (255 * j) ++ sp)) (min 255 (d.length - 255 * j)) (c - 255 * j)
/-- How many pieces. -/
def pcs (n : Nat) : Nat := (n - 1) / 255 + 1
def muW (A : Addr) (w : World) : Nat := match w.cell? A with
  | some (.slice _ n _) => n
  | _ => 0
theorem muW_of {e : Env} {nm : NB} {tm : List (Nat × SV)} {hp : List SB} {a : Act} {w : World} {bx : Nat} {d sp : List UInt8} {c j : Nat} (S : Sat e ⟨nm, tm, hp⟩ a w) (hb : hp[bx]? = some (boxB d sp c j)) (hlt : bx < e.ρ.n) : muW (e.ρ.at bx 0) w = d.length - 255 * j := by
  obtain ⟨ρ, S⟩ := S
  obtain ⟨y, h1, h2⟩ := S.step.models.ro bx _ hb 0 _ rfl
  have ha : ρ.at bx 0 = e.ρ.at bx 0 := by simp only [Rho.at, S.step.le.2 bx hlt]
  rw [ha] at h1
  unfold muW
  rw [h1]
  simp only [boxC, SC.rel, RC.rel] at h2
  rcases h2 with ⟨h3, _, p, rfl⟩ | ⟨_, b, o, rfl, _⟩
  · simp only; omega
  · rfl

theorem boxC_next {d sp : List UInt8} {c j : Nat} (h : 255 < d.length - 255 * j) : SC.ro ((bsR (d.drop (255 * j) ++ sp)).drop 255) (d.length - 255 * j - 255) (c - 255 * j - 255) = boxC d sp c (j + 1) := by
  unfold boxC
  have h1 : (bsR (d.drop (255 * j) ++ sp)).drop 255 = bsR (d.drop (255 * (j + 1)) ++ sp) := by
    rw [rs_drop, List.drop_append_of_le_length (by simp; omega), List.drop_drop]
    rw [show 255 * j + 255 = 255 * (j + 1) by omega]
  rw [h1]
  congr 1 <;> omega
theorem pieceC_full {d sp : List UInt8} {c j : Nat} (h : 255 < d.length - 255 * j) : SC.ro (bsR (d.drop (255 * j) ++ sp)) 255 (c - 255 * j) = pieceC d sp c j := by
  unfold pieceC
  rw [Nat.min_eq_left (by omega)]
theorem pieceC_last {d sp : List UInt8} {c j : Nat} (h : d.length - 255 * j ≤ 255) : boxC d sp c j = pieceC d sp c j := by
  unfold boxC pieceC
  rw [Nat.min_eq_right h]

theorem pieces_calls {L : LR} {l : Nat} {hp : List SB} {ρ : Rho} {W : World} {bx : Nat} {d sp : List UInt8} {c : Nat} {Bi : Nat → List SB → Prop}
    (M : Models hp ρ W) (pn : PinsOk (L.pins l .ready) W) (hc : d.length ≤ c) (hbx : hp[bx]? = some (boxB d sp c 0)) (h0 : Bi 0 hp)
    (hset : ∀ j hp' y, Bi j hp' → Bi j (hp'.set bx y))
    (hround : ∀ j hp' ρ' W' v, Bi j hp' → hp'[bx]? = some (boxB d sp c j) → (255 * j < d.length ∨ j = 0) → Models hp' ρ' W' → ρ.le ρ' → PinsOk (L.pins l .ready) W' → (pieceC d sp c j).rel ρ' v →
      RoundIn (rF none) 0 cx.P l L.fn (L.tmps.setIfInBounds L.tp v) L.asg L.body W' fun e' W'' => e' = .returned (.bool true) ∧ ∃ hp'' ρ'', Step hp' ρ' W' hp'' ρ'' W'' ∧ (Bi (j + 1) hp'' ∧ hp''[bx]? = some (boxB d sp c j))) :
    CallsIn (rF none) 0 cx.P 50 #[.func (.yield l) #[] #[], .pointer (some (ρ.at bx 0))] W fun e W' => (∃ v, e = .returned v) ∧ ∃ hp' ρ', Step hp ρ W hp' ρ' W' ∧ Bi (pcs d.length) hp' ∧ PinsOk (L.pins l .ready) W' := by
  have hlt : bx < ρ.n := M.some_lt hbx
  refine callsIn_of_wp_marks Try.func50 rfl (rF_fn none _) ?_ rfl
  obtain ⟨e, he⟩ : ∃ e : Env, e = ⟨W, hp, ρ, 16, [], L.pins l .ready⟩ := ⟨_, rfl⟩
  have S0 : Sat e ⟨⟨2, hp.length⟩, [(0, .c (.v (.func (.yield l) #[] #[]))), (1, .c (.ptr bx 0))], hp⟩ { tmps := #[.func (.yield l) #[] #[], .pointer (some (ρ.at bx 0))] ++ Array.replicate (Try.f50.ntmps - #[Value.func (.yield l) #[] #[], Value.pointer (some (ρ.at bx 0))].size) undef, defers := [] } W := by
    subst he
    refine ⟨ρ, ⟨rfl, M.n⟩, ⟨⟨[], rfl, List.nodup_nil, fun D hD => by simp at hD⟩, pn⟩, by rw [show Try.f50.ntmps = 16 from rfl]; simp, Step.refl M, fun t s hts => ?_⟩
    match t, hts with
    | 0, hts => cases hts; exact ⟨_, rfl, rfl, rfl⟩
    | 1, hts => cases hts; exact ⟨_, rfl, hlt, rfl⟩
    | t + 2, hts => simp [look] at hts
  have ent : e.nt = 16 := by rw [he]
  have eρ : e.ρ = ρ := by rw [he]
  refine wpIn_seq (wpIn_block (wpIn_loop (fun a w => ∃ (j : Nat) (hp' : List SB), (255 * j < d.length ∨ j = 0) ∧ Bi j hp' ∧ hp'[bx]? = some (boxB d sp c j) ∧ Sat e ⟨⟨2, hp.length⟩, [(0, .c (.v (.func (.yield l) #[] #[]))), (1, .c (.ptr bx 0))], hp'⟩ a w) (fun _ w => muW (ρ.at bx 0) w) ⟨0, hp, .inr rfl, h0, hbx, S0⟩ ?_))
  rintro a w ⟨j, hp', hj, hB, hb, S⟩
  have hmu : muW (ρ.at bx 0) w = d.length - 255 * j := by
    have := muW_of S hb (by rw [eρ]; exact hlt)
    rwa [eρ] at this
  have ltb := lt_of hb
  have hbc : boxC d sp c j = .ro (bsR (d.drop (255 * j) ++ sp)) (d.length - 255 * j) (c - 255 * j) := rfl
  unfold boxB at hb
  rw [hbc] at hb
  have lv : ∀ (ex : Exit) (a : Act) (w : World) (σ : St) (j : Nat) (hp' : List SB), j = pcs d.length → Bi j hp' → Sat e ⟨⟨2, hp.length⟩, [], hp'⟩ a w → LeavesInM (rF none) 0 cx.P Try.f50 a.tmps (fun e W' => (∃ v, e = .returned v) ∧ ∃ hp' ρ', Step hp ρ W hp' ρ' W' ∧ Bi (pcs d.length) hp' ∧ PinsOk (L.pins l .ready) W') a.defers .returning w := by
    rintro ex a w σ j hp' rfl hB ⟨ρ1, S⟩
    obtain ⟨⟨Ds, d1, d2⟩, _⟩ := S.defers
    have edf : e.df = [] := by rw [he]
    rw [d1, edf, List.append_nil]
    refine leaves_marks Ds w d2 ?_
    have S' := S.shut (by rw [he]; exact fun k hk => (M.zone k hk).1) (by rw [he]; exact fun p hp => (Array.getElem?_eq_some_iff.1 (pn p hp).1).1) Ds d2
    refine ⟨_, results_none rfl _ _ _, ⟨_, rfl⟩, hp', ρ1, ?_, hB, ?_⟩
    · have := S'.step; rw [he] at this; exact this
    · have := S'.defers.2; rw [he] at this; exact this
  by_cases hgt : 255 < d.length - 255 * j
  · have hd : decide ((255 : Int) < ((d.length - 255 * j : Nat) : Int)) = true := by simp only [decide_eq_true_eq]; omega
    refine wpIn_seq ?_
    refine wpIn_mono (run_in cx_ok (n := 400) (J := fun σ => Sub σ ⟨⟨2, hp.length⟩, [(0, .c (.v (.func (.yield l) #[] #[]))), (1, .c (.ptr bx 0))], hp'⟩) (Q := fun _ _ => False) ?_ rfl (by rw [ent]; rfl) S) ?_
    · simp (maxSteps := 4000000) only [Try.results50, hb, ltb, hd, XX, Nat.reduceBEq, Nat.reduceLT, Nat.reduceAdd, Nat.reduceMul, Nat.reduceSub, Nat.reduceLeDiff, Nat.reduceEqDiff, Int.reduceToNat, Int.reduceLT, Int.reduceLE, Int.reduceAdd, Int.reduceSub, Int.reduceEq, reduceIte, Nat.reduceBNe, Int.reducePow, Nat.reducePow, Int.reduceMul, Int.reduceNeg, isB_i, isB_b, isB_y, isBv_i, isBv_b, eqCells_t, TT]
      exact ⟨rfl, rfl, rfl, rfl, trivial⟩
    intro ex a2 w2 hq
    obtain ⟨rfl, σ2, S2, j2⟩ := contIn_end hq
    have S2 := S2.sub j2
    refine wpIn_block (wpIn_seq (wpIn_seq (wpIn_region_list (wpListIn_app (l1 := [_, _, _]) (l2 := [_, _]) ?_))))
    refine wpListIn_mono ?_ (run_ops cx_ok (n := 400) (J := fun σ => Sub σ ⟨⟨2, hp.length⟩, [(0, .c (.v (.func (.yield l) #[] #[]))), (1, .c (.ptr bx 0)), (6, .c (.v (.func (.yield l) #[] #[]))), (8, .c (pieceC d sp c j))], hp'⟩) (Q := fun _ _ => False) ?_ rfl (by rw [ent]; rfl) S2)
    · intro ex a3 w3 hq
      obtain ⟨rfl, σ3, S3, j3⟩ := contIn_end hq
      obtain ⟨ρ3, S3⟩ := S3.sub j3
      refine wpListIn_plain rfl fun K hK => ?_
      have pn3 : PinsOk (L.pins l .ready) w3 := by have := S3.defers.2; rw [he] at this; exact this
      refine yield_ok cx_ok (L := L) (l := l) (fun hp'' => Bi (j + 1) hp'' ∧ hp''[bx]? = some (boxB d sp c j)) S3 rfl rfl (pn3 _ (.head _)).1 (by rw [ent]; intro d hd; cases hd; decide) (fun v hv => hround j hp' ρ3 w3 v hB hb hj S3.step.models (by have := S3.step.le; rw [eρ] at this; exact this) pn3 hv) ?_
      rintro a4 w4 hp4 ⟨hB4, hb4⟩ S4
      refine hK _ _ ?_
      have ltb4 := lt_of hb4
      unfold boxB at hb4
      rw [hbc] at hb4
      refine wpListIn_mono ?_ (run_ops cx_ok (n := 400) (J := fun σ => Sub σ ⟨⟨2, hp.length⟩, [(0, .c (.v (.func (.yield l) #[] #[]))), (1, .c (.ptr bx 0)), (10, .c (bC false))], hp4⟩) (Q := fun _ _ => False) ?_ rfl (by rw [ent]; rfl) S4)
      · intro ex a5 w5 hq
        obtain ⟨rfl, σ5, S5, j5⟩ := contIn_end hq
        have S5 := S5.sub j5
        refine wpIn_mono (run_in cx_ok (n := 400) (J := fun σ => Sub σ ⟨⟨2, hp.length⟩, [(0, .c (.v (.func (.yield l) #[] #[]))), (1, .c (.ptr bx 0))], hp4⟩) (Q := fun _ _ => False) ?_ rfl (by rw [ent]; rfl) S5) ?_
        · simp (maxSteps := 4000000) only [Try.results50, XX, Nat.reduceBEq, Nat.reduceLT, Nat.reduceAdd, Nat.reduceMul, Nat.reduceSub, Nat.reduceLeDiff, Nat.reduceEqDiff, Int.reduceToNat, Int.reduceLT, Int.reduceLE, Int.reduceAdd, Int.reduceSub, Int.reduceEq, reduceIte, Nat.reduceBNe, Int.reducePow, Nat.reducePow, Int.reduceMul, Int.reduceNeg, isB_i, isB_b, isB_y, isBv_i, isBv_b, eqCells_t, TT]
          exact ⟨rfl, rfl, rfl, rfl, trivial⟩
        intro ex a6 w6 hq
        obtain ⟨rfl, σ6, S6, j6⟩ := contIn_end hq
        have S6 := S6.sub j6
        refine wpIn_mono (run_in cx_ok (n := 400) (J := fun σ => Sub σ ⟨⟨2, hp.length⟩, [(0, .c (.v (.func (.yield l) #[] #[]))), (1, .c (.ptr bx 0))], hp4.set bx (boxB d sp c (j + 1))⟩) (Q := fun _ _ => False) ?_ rfl (by rw [ent]; rfl) S6) ?_
        · simp (maxSteps := 4000000) only [Try.results50, hb4, ltb4, XX, Nat.reduceBEq, Nat.reduceLT, Nat.reduceAdd, Nat.reduceMul, Nat.reduceSub, Nat.reduceLeDiff, Nat.reduceEqDiff, Int.reduceToNat, Int.reduceLT, Int.reduceLE, Int.reduceAdd, Int.reduceSub, Int.reduceEq, reduceIte, Nat.reduceBNe, Int.reducePow, Nat.reducePow, Int.reduceMul, Int.reduceNeg, isB_i, isB_b, isB_y, isBv_i, isBv_b, eqCells_t, TT]
          exact ⟨by omega, rfl, by rw [boxC_next hgt]; rfl, rfl, rfl, trivial⟩
        intro ex a7 w7 hq
        obtain ⟨rfl, σ7, S7, j7⟩ := contIn_end hq
        have S7 := S7.sub j7
        refine ⟨⟨j + 1, _, .inl (by omega), hset _ _ _ hB4, List.getElem?_set_self (by simpa using ltb4), S7⟩, ?_⟩
        have h7 := muW_of S7 (List.getElem?_set_self (by simpa using ltb4)) (by rw [eρ]; exact hlt)
        rw [eρ] at h7
        show muW (ρ.at bx 0) w7 < muW (ρ.at bx 0) w
        rw [h7, hmu]
        omega
      · simp (maxSteps := 4000000) only [Try.results50, XX, Nat.reduceBEq, Nat.reduceLT, Nat.reduceAdd, Nat.reduceMul, Nat.reduceSub, Nat.reduceLeDiff, Nat.reduceEqDiff, Int.reduceToNat, Int.reduceLT, Int.reduceLE, Int.reduceAdd, Int.reduceSub, Int.reduceEq, reduceIte, Nat.reduceBNe, Int.reducePow, Nat.reducePow, Int.reduceMul, Int.reduceNeg, isB_i, isB_b, isB_y, isBv_i, isBv_b, eqCells_t, TT]
        exact ⟨rfl, rfl, rfl, rfl, rfl, trivial⟩
    · simp (maxSteps := 4000000) only [Try.results50, hb, ltb, XX, Nat.reduceBEq, Nat.reduceLT, Nat.reduceAdd, Nat.reduceMul, Nat.reduceSub, Nat.reduceLeDiff, Nat.reduceEqDiff, Int.reduceToNat, Int.reduceLT, Int.reduceLE, Int.reduceAdd, Int.reduceSub, Int.reduceEq, reduceIte, Nat.reduceBNe, Int.reducePow, Nat.reducePow, Int.reduceMul, Int.reduceNeg, isB_i, isB_b, isB_y, isBv_i, isBv_b, eqCells_t, TT]
      exact ⟨by omega, rfl, rfl, rfl, rfl, rfl, by rw [← pieceC_full hgt]; rfl, trivial⟩
  · have hd : decide ((255 : Int) < ((d.length - 255 * j : Nat) : Int)) = false := by simp only [decide_eq_false_iff_not]; omega
    refine wpIn_seq ?_
    refine wpIn_mono (run_in cx_ok (n := 400) (J := fun _ => False) (Q := fun x σ => match x with
      | .exit 0 => Sub σ ⟨⟨2, hp.length⟩, [(0, .c (.v (.func (.yield l) #[] #[]))), (1, .c (.ptr bx 0))], hp'⟩
      | _ => False) ?_ rfl (by rw [ent]; rfl) S) ?_
    · simp (maxSteps := 4000000) only [Try.results50, hb, ltb, hd, XX, Nat.reduceBEq, Nat.reduceLT, Nat.reduceAdd, Nat.reduceMul, Nat.reduceSub, Nat.reduceLeDiff, Nat.reduceEqDiff, Int.reduceToNat, Int.reduceLT, Int.reduceLE, Int.reduceAdd, Int.reduceSub, Int.reduceEq, reduceIte, Nat.reduceBNe, Int.reducePow, Nat.reducePow, Int.reduceMul, Int.reduceNeg, isB_i, isB_b, isB_y, isBv_i, isBv_b, eqCells_t, TT]
      exact ⟨rfl, rfl, rfl, rfl, trivial⟩
    intro ex a2 w2 hq
    have hq : ex = .exit 0 ∧ Sat e ⟨⟨2, hp.length⟩, [(0, .c (.v (.func (.yield l) #[] #[]))), (1, .c (.ptr bx 0))], hp'⟩ a2 w2 := by
      cases ex with
      | normal => obtain ⟨_, _, h⟩ := hq; exact h.elim
      | exit id =>
        obtain ⟨σ, hS, h⟩ := hq
        match id, h with
        | 0, h => exact ⟨rfl, hS.sub h⟩
        | _ + 1, h => exact h.elim
      | goto l => exact hq.elim
      | ret => obtain ⟨_, _, h⟩ := hq; exact h.elim
      | panic ch => obtain ⟨_, _, h⟩ := hq; exact h.elim
      | outgrown => exact hq.elim
    obtain ⟨rfl, S2⟩ := hq
    show Code.wpIn (rF none) 0 cx.P (Code.region 3 _ false) _ a2 w2
    refine wpIn_region_list (wpListIn_app (l1 := [_, _]) (l2 := [_]) ?_)
    refine wpListIn_mono ?_ (run_ops cx_ok (n := 400) (J := fun σ => Sub σ ⟨⟨2, hp.length⟩, [(0, .c (.v (.func (.yield l) #[] #[]))), (1, .c (.ptr bx 0)), (13, .c (.v (.func (.yield l) #[] #[]))), (14, .c (pieceC d sp c j))], hp'⟩) (Q := fun _ _ => False) ?_ rfl (by rw [ent]; rfl) S2)
    · intro ex a3 w3 hq
      obtain ⟨rfl, σ3, S3, j3⟩ := contIn_end hq
      obtain ⟨ρ3, S3⟩ := S3.sub j3
      refine wpListIn_plain rfl fun K hK => ?_
      have pn3 : PinsOk (L.pins l .ready) w3 := by have := S3.defers.2; rw [he] at this; exact this
      refine yield_ok cx_ok (L := L) (l := l) (fun hp'' => Bi (j + 1) hp'' ∧ hp''[bx]? = some (boxB d sp c j)) S3 rfl rfl (pn3 _ (.head _)).1 (by rw [ent]; intro d hd; cases hd; decide) (fun v hv => hround j hp' ρ3 w3 v hB hb hj S3.step.models (by have := S3.step.le; rw [eρ] at this; exact this) pn3 hv) ?_
      rintro a4 w4 hp4 ⟨hB4, hb4⟩ S4
      refine hK _ _ ?_
      show LeavesInM (rF none) 0 cx.P Try.f50 a4.tmps _ a4.defers .returning w4
      exact lv .normal a4 w4 ⟨⟨2, hp.length⟩, [], hp4⟩ (j + 1) hp4 (by unfold pcs; rcases hj with h | h <;> omega) hB4 (S4.sub ⟨rfl, rfl, trivial⟩)
    · simp (maxSteps := 4000000) only [Try.results50, hb, ltb, XX, Nat.reduceBEq, Nat.reduceLT, Nat.reduceAdd, Nat.reduceMul, Nat.reduceSub, Nat.reduceLeDiff, Nat.reduceEqDiff, Int.reduceToNat, Int.reduceLT, Int.reduceLE, Int.reduceAdd, Int.reduceSub, Int.reduceEq, reduceIte, Nat.reduceBNe, Int.reducePow, Nat.reducePow, Int.reduceMul, Int.reduceNeg, isB_i, isB_b, isB_y, isBv_i, isBv_b, eqCells_t, TT]
      exact ⟨rfl, rfl, rfl, rfl, rfl, by rw [← pieceC_last (by omega)]; rfl, trivial⟩

theorem Ext.alloc2 {S : Nat → Prop} (w : World) (o o' : Obj) : Ext S w ((w.alloc o).alloc o') := (Ext.alloc S w o).trans (Ext.alloc S _ o')
theorem Step.ext0 {h : List SB} {ρ : Rho} {w w' : World} (M : Models h ρ w) (E : Ext (fun _ => False) w w') : Step h ρ w h ρ w' :=
  ⟨⟨Nat.le_refl _, fun _ _ => rfl, rfl, rfl⟩, M.ext E, fun i h1 h2 => by omega, E.mono fun _ _ h => h.elim, fun i b _ hb ho => ⟨b, hb, ho⟩, fun i b _ hb hv => ⟨b, hb, hv⟩⟩

/-- The pieces, ranged over. -/
theorem range_pieces {bx : Nat} {d sp : List UInt8} {c : Nat} {tf tp : Tmp} {asg body : Code} {k : List KI} {σ : St} {Q : XE → St → Prop} {Bi : Nat → List SB → Prop} (nx n1 n2 n3 : Nat)
    (hf : look tf σ.tm = some (.c (.fn 50 [(bx, 0)]))) (hbx : σ.hp[bx]? = some (boxB d sp c 0)) (hc : d.length ≤ c) (h0 : Bi 0 σ.hp) (hset : ∀ j hp' y, Bi j hp' → Bi j (hp'.set bx y)) (sa : simpleC asg = true) (sb : simpleC body = true)
    (hround : ∀ j hp', Bi j hp' → hp'[bx]? = some (boxB d sp c j) → (255 * j < d.length ∨ j = 0) → ∃ J1 : St → Prop, X cx n1 [.code asg, .lp J1] ⟨⟨nx, hp'.length⟩, put (some tp) (.c (pieceC d sp c j)) σ.tm, hp'⟩ (fun _ _ => False) ∧ (∀ σ', J1 σ' → σ'.nm = ⟨nx, hp'.length⟩ ∧ σ'.hp = hp') ∧
      ∀ σ', J1 σ' → X cx n2 [.code body, .lp fun σ'' => Bi (j + 1) σ''.hp ∧ σ''.hp[bx]? = some (boxB d sp c j)] σ' (fun _ _ => False))
    (hk : ∀ hp', Bi (pcs d.length) hp' → X cx n3 k ⟨σ.nm, σ.tm, hp'⟩ Q) : RangeGoal cx.P (.tmp tf) #[tp] asg body k σ Q := by
  intro e a w hcd hok S
  obtain ⟨ρ, S⟩ := S
  have M := S.step.models
  obtain ⟨yf, f1, f2, f3⟩ := S.tm tf _ hf
  have hbn : bx < ρ.n := M.some_lt hbx
  have ef : a.eval (.tmp tf) = .func (.func 50) #[] #[.pointer (some (ρ.at bx 0))] := by simp [Act.eval, Array.getD_eq_getD_getElem?, f1]; exact f3
  have hcd' : tp < e.nt ∧ codeOk e.nt asg = true ∧ codeOk e.nt body = true := by simpa [codeOk, and_assoc] using hcd
  refine wpIn_wide.1 (wpIn_rangeFunc (F := Fence.wide) (n := 0) ?_)
  intro fn _
  obtain ⟨L, hL⟩ : ∃ L : LR, L = ⟨fn, a.tmps, tp, asg, body, w.heap.size⟩ := ⟨_, rfl⟩
  obtain ⟨W1, hW1⟩ : ∃ W1, W1 = (w.alloc (.deferred (some []))).alloc (L.obj .ready) := ⟨_, rfl⟩
  have hl1 : W1.heap[w.heap.size + 1]? = some (L.obj .ready) := by
    rw [hW1]; have := World.alloc_heap_new (w.alloc (.deferred (some []))) (L.obj .ready); rwa [World.size_alloc] at this
  have hD1 : W1.heap[w.heap.size]? = some (.deferred (some [])) := by
    rw [hW1, RowKit.Below.heap_alloc _ _ _ (by simp)]; exact World.alloc_heap_new w _
  have E1 : Ext (fun _ => False) w W1 := by rw [hW1]; exact Ext.alloc2 _ _ _
  have st1 : Step σ.hp ρ w σ.hp ρ W1 := Step.ext0 M E1
  have LD : L.D = w.heap.size := by rw [hL]
  have pn1 : PinsOk (L.pins (w.heap.size + 1) .ready) W1 := by
    intro p hp
    simp only [LR.pins, List.mem_cons, List.not_mem_nil, or_false] at hp
    rcases hp with rfl | rfl
    · exact ⟨hl1, rfl⟩
    · exact ⟨by rw [LD]; exact hD1, rfl⟩
  have hz : ∀ k, ρ.zone k → k < w.heap.size := fun k hk => (M.zone k hk).1
  refine ⟨w.heap.size + 1, [mkD w.heap.size], W1, { target := .fn (.func 50) #[.pointer (some (ρ.at bx 0))], args := #[.func (.yield (w.heap.size + 1)) #[] #[]] }, W1, 50,
    #[.func (.yield (w.heap.size + 1)) #[] #[]] ++ #[.pointer (some (ρ.at bx 0))], W1, ?_, ?_, fun _ _ => trivial, ?_, fun h => (by cases h), ?_⟩
  · rw [hW1, hL]; exact run_enterLoop_outer _ _ _ _ _
  · simp only [resolve, ef]
    simp [go_sem]
  · have hen : ∀ (vs : Array Value) (w : World), (callFunc 50 vs).run cx.P w = .ok (.enter 50 vs) w := fun vs w => Go.Proofs.enters_of Try.func50 (by kernel_rfl) rfl vs w
    simp [invoke, go_sem, hen]
  · refine (pieces_calls (L := L) (l := w.heap.size + 1) (sp := sp) st1.models pn1 hc hbx h0 hset (fun j hp' ρ' W' v hB hb hj M' hle pn hv => ?_)).mono ?_
    · obtain ⟨J1, x1, x2, x3⟩ := hround j hp' hB hb hj
      have hn : L.tmps.size = e.nt := by rw [hL]; exact S.size
      refine (round_ok cx_ok (nx := nx) (nt := e.nt) (tm := σ.tm) (x := pieceC d sp c j) (K := fun hp'' => Bi (j + 1) hp'' ∧ hp''[bx]? = some (boxB d sp c j)) (B := w.heap.size) M' pn (fun k hk => hz k (by rw [hle.4] at hk; exact hk)) (by omega) (by rw [LD]; omega) hn
        (fun t s hts => by
          obtain ⟨y, q1, q2⟩ := S.tm t s hts
          exact ⟨y, by rw [hL]; exact q1, SV.rel_le hle q2⟩) hv (by rw [hL]; exact hcd'.1) (by rw [hL]; exact hcd'.2.1) (by rw [hL]; exact hcd'.2.2) (by rw [hL]; exact sa) (by rw [hL]; exact sb) J1 n1 n2 (by rw [hL]; exact x1) x2 (by rw [hL]; exact x3)).mono ?_
      rintro e' W'' ⟨h1, hp'', ρ'', h2, h3, _⟩
      exact ⟨h1, hp'', ρ'', h2, h3⟩
    · rintro e' W' ⟨⟨v, rfl⟩, hp', ρ', st, hB, pn⟩
      have hl' := (pn _ (.head _)).1
      have hD' := (pn _ (.tail _ (.head _))).1
      rw [LD] at hD'
      refine ⟨none, _, run_endLoop hl' (by simp), ?_⟩
      refine X_ok cx_ok n3 _ _ _ (hk hp' hB) e _ _ hok ⟨ρ', ?_⟩
      obtain ⟨⟨Ds, d1, d2⟩, d3⟩ := S.defers
      have d2' := (d2.step M st1).step st1.models st
      have d3' := (d3.step M st1).step st1.models st
      have hlt : ∀ D ∈ Ds, D < w.heap.size := fun D hD => (Array.getElem?_eq_some_iff.1 (d2.2 D hD).2).1
      have hsz : e.w.heap.size ≤ w.heap.size := S.step.ext.size
      refine ⟨S.base, ⟨⟨w.heap.size :: Ds, by show mkD w.heap.size :: a.defers = _; rw [d1]; rfl, ?_, fun D hD => ?_⟩, fun p hp => ?_⟩, S.size, (S.step.trans (st1.trans st)).putObj _ hl' (L.nc _) (by omega) (fun hk => ?_), fun t s hts => ?_⟩
      · refine List.nodup_cons.2 ⟨fun h => ?_, d2.1⟩
        have := hlt _ h
        omega
      · rcases List.mem_cons.1 hD with rfl | h
        · exact ⟨hsz, by rw [World.putObj_heap_other (by omega)]; exact hD'⟩
        · exact ⟨(d2.2 D h).1, by rw [World.putObj_heap_other (by have := hlt D h; omega)]; exact (d2'.2 D h).2⟩
      · have h1 := (Array.getElem?_eq_some_iff.1 (d3 p hp).1).1
        exact ⟨by rw [World.putObj_heap_other (by omega)]; exact (d3' p hp).1, (d3 p hp).2⟩
      · rw [st.le.4] at hk
        have := hz _ hk
        omega
      · obtain ⟨y, q1, q2⟩ := S.tm t s hts
        exact ⟨y, q1, SV.rel_le st.le q2⟩

end Go.Proofs.Ytflccffjfnfoiaa.Sx
