/- A symbolic executor for the model's code: from what it says of a law's function to what a row asks behind the call. No condition. -/
import Derived.Test.YthbojoiogjdbeaaSxDraw
import Derived.ProofKit
import Derived.OpenShut
import Derived.Carry
namespace Go.Proofs.Ythbojoiogjdbeaa.Sx
open Go Go.ChangeShapes Go.WideShapes Go.RowKit
set_option linter.unusedVariables false
set_option linter.unusedSectionVars false

theorem Ext.below {w w' : World} (E : Ext (fun _ => False) w w') : Below w.heap.size w w' := ⟨E.os, E.tape, E.output, E.size, fun k hk => E.block k hk fun h => h⟩

section
variable {H : Type} {enc : TypeId × Value → H} {P : Program}

theorem trodAll_below (hl : laidOutB P = true) {W W' : World} (hb : Below W.heap.size W W') : ∀ {ts : List TypeId} {vs : List Value} {ds : List (DataW H)} {ps : List MemPlace},
    (ts.all fun t => P.readableRec t && decide (t < P.types.size)) = true → DataW.TrodAll enc P W 0 (fun _ => true) true ts vs ds ps → (∀ x ∈ ps, x.block < W.heap.size) →
    DataW.TrodAll enc P W' 0 (fun b => decide (b < W.heap.size)) true ts vs ds ps
  | [], [], [], _, _, h, _ => h
  | t :: ts, v :: vs, d :: ds, ps, ht, ⟨p, q, h1, h2, e⟩, hp => by
    simp only [List.all_cons, Bool.and_eq_true, decide_eq_true_eq] at ht
    subst e
    exact ⟨p, q, Below.trod hl ht.1.1 ht.1.2 h1 hb (fun x hx => hp x (List.mem_append_left _ hx)),
      trodAll_below hl hb (by simpa using ht.2) h2 (fun x hx => hp x (List.mem_append_right _ hx)), rfl⟩

theorem trodAll_len {w : World} {base : Nat} {sp : Nat → Bool} {hd : Bool} : ∀ {ts : List TypeId} {vs : List Value} {ds : List (DataW H)} {ps : List MemPlace}, DataW.TrodAll enc P w base sp hd ts vs ds ps → ds.length = ts.length
  | [], [], [], _, _ => rfl
  | t :: ts, v :: vs, d :: ds, ps, ⟨p, q, h1, h2, e⟩ => by simp [trodAll_len h2]

/-- Behind a call that answered true and left all that was there. -/
theorem post_true (hl : laidOutB P = true) {f : Func} {s : ChangeSpec} {apart : Bool} {W W' : World} {args : Array Value} {ds gs : List (DataW H)} {before : List MemPlace} {tb : TypeId}
    (hread : (f.params.toList.all fun t => P.readableRec t && decide (t < P.types.size)) = true) (hrt : f.resultTypes = #[tb]) (hb : P.underlying tb = some .bool) (hv : s.vars = [])
    (hfn : ∀ ds : List (DataW H), ds.length = f.params.size → s.fn H ds = { results := [.lit (.bool true)], args := ds })
    (hW : DataW.Whole enc P f.params.toList s.vars apart W args.toList ds gs before) (E : Ext (fun _ => False) W W') :
    s.post enc P f apart true false false W args (.bool true) W' := by
  have hlt := hW.lt
  obtain ⟨p, q, h1, h2, h3, h4, h5⟩ := id hW
  rw [hv] at h2
  obtain ⟨rfl, rfl⟩ := trodVars_none h2
  have e1 : s.fn H (ds ++ []) = { results := [.lit (.bool true)], args := ds } := by rw [List.append_nil]; exact hfn ds (by simpa using trodAll_len h1)
  refine ⟨ds, [], before, [], p, [], hW, ?_, ?_, ?_, E.below.frame _, fun h => by cases h⟩
  · rw [hrt, e1]
    exact trodAll_cons_mk (shut_bool hb true) trodAll_mk0
  · rw [e1]
    exact trodAll_below hl E.below hread h1 fun x hx => hlt x (by rw [h3]; simpa using hx)
  · rw [e1, hv]
    rfl

end

/-- A law's function over windows that nobody may write. -/
theorem law_of_spec {P : Program} {f : FuncId} {h : List SB} {ρ : Rho} {W : World} {vs : Array Value} {args : List SV} (s : Spec P f args h fun r _ => r = .c (.v (.bool true)))
    (M : Models h ρ W) (hro : (h.all fun b => !b.own) = true) (hl : args.length = vs.size) (hr : ∀ (j : Nat) (s : SV) (y : Value), args[j]? = some s → vs[j]? = some y → s.rel ρ y) :
    Calls P f vs W fun e W' => e = .returned (.bool true) ∧ Ext (fun _ => False) W W' := by
  refine (s.2 ρ W vs M hl hr).mono ?_
  rintro e W' ⟨y, r, h', ρ', rfl, st, hy, rfl⟩
  refine ⟨by rw [hy.1], st.ext.mono ?_⟩
  rintro k _ ⟨i, b, h1, h2, h3⟩
  have := List.all_eq_true.1 hro b (List.mem_of_getElem? h1)
  rw [h2] at this
  cases this

theorem models_nil (W : World) : Models [] ⟨0, fun _ => (0, 0), W, fun k => k < W.heap.size⟩ W :=
  ⟨rfl, fun i b h => by simp at h, fun i b h => by simp at h, fun i j bi bj _ h => by simp at h, fun i b h => by simp at h, fun k hk => ⟨hk, rfl⟩, fun k i b _ h => by simp at h⟩

/-- A law's function over plain values. -/
theorem law_of_vals {P : Program} {f : FuncId} {W : World} (vs : List Value) (hv : (vs.all Value.oneCell') = true) (s : Spec P f (vs.map fun v => .c (.v v)) [] fun r _ => r = .c (.v (.bool true))) :
    Calls P f vs.toArray W fun e W' => e = .returned (.bool true) ∧ Ext (fun _ => False) W W' := by
  refine law_of_spec s (models_nil W) rfl (by simp) fun j t y h1 h2 => ?_
  simp only [List.getElem?_map, Option.map_eq_some_iff] at h1
  obtain ⟨x, hx, rfl⟩ := h1
  have : vs[j]? = some y := by simpa using h2
  rw [this] at hx
  cases hx
  exact ⟨rfl, List.all_eq_true.1 hv _ (List.mem_of_getElem? this)⟩

end Go.Proofs.Ythbojoiogjdbeaa.Sx
