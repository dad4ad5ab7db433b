/- Equations of the symbolic executor, for simp. No condition. -/
import Derived.Test.YthbojoiogjdbeaaSxDefs
namespace Go.Proofs.Ythbojoiogjdbeaa.Sx
open Go
theorem opR_e1 : type_of% @opR.eq_1 := @opR.eq_1
theorem opR_e2 : type_of% @opR.eq_2 := @opR.eq_2
theorem opR_e3 : type_of% @opR.eq_3 := @opR.eq_3
theorem opR_e4 : type_of% @opR.eq_4 := @opR.eq_4
theorem opR_e5 : type_of% @opR.eq_5 := @opR.eq_5
theorem opR_e6 : type_of% @opR.eq_6 := @opR.eq_6
theorem opR_e7 : type_of% @opR.eq_7 := @opR.eq_7
theorem opR_e8 : type_of% @opR.eq_8 := @opR.eq_8
theorem opR_e9 : type_of% @opR.eq_9 := @opR.eq_9
theorem opR_e10 : type_of% @opR.eq_10 := @opR.eq_10
theorem opR_e11 : type_of% @opR.eq_11 := @opR.eq_11
theorem opR_e12 : type_of% @opR.eq_12 := @opR.eq_12
theorem opR_e13 : type_of% @opR.eq_13 := @opR.eq_13
theorem opR_e14 : type_of% @opR.eq_14 := @opR.eq_14
theorem opR_e15 : type_of% @opR.eq_15 := @opR.eq_15
theorem opR_e16 : type_of% @opR.eq_16 := @opR.eq_16
theorem opR_e17 : type_of% @opR.eq_17 := @opR.eq_17
theorem opR_e18 : type_of% @opR.eq_18 := @opR.eq_18
theorem opR_e19 : type_of% @opR.eq_19 := @opR.eq_19
theorem opR_e20 : type_of% @opR.eq_20 := @opR.eq_20
theorem opR_e21 : type_of% @opR.eq_21 := @opR.eq_21
theorem opR_e22 : type_of% @opR.eq_22 := @opR.eq_22
theorem opR_e23 : type_of% @opR.eq_23 := @opR.eq_23
theorem opR_e24 : type_of% @opR.eq_24 := @opR.eq_24
theorem opR_e25 : type_of% @opR.eq_25 := @opR.eq_25
theorem opR_e26 : type_of% @opR.eq_26 := @opR.eq_26
theorem opR_e27 : type_of% @opR.eq_27 := @opR.eq_27
theorem opR_e28 : type_of% @opR.eq_28 := @opR.eq_28
theorem opR_e29 : type_of% @opR.eq_29 := @opR.eq_29
theorem opR_e30 : type_of% @opR.eq_30 := @opR.eq_30
theorem opR_e31 : type_of% @opR.eq_31 := @opR.eq_31
theorem opR_e32 : type_of% @opR.eq_32 := @opR.eq_32
theorem opR_e33 : type_of% @opR.eq_33 := @opR.eq_33
theorem opR_e34 : type_of% @opR.eq_34 := @opR.eq_34
theorem opR_e35 : type_of% @opR.eq_35 := @opR.eq_35
theorem binS_e1 : type_of% @binS.eq_1 := @binS.eq_1
theorem binS_e2 : type_of% @binS.eq_2 := @binS.eq_2
theorem binS_e3 : type_of% @binS.eq_3 := @binS.eq_3
theorem binS_e4 : type_of% @binS.eq_4 := @binS.eq_4
theorem binS_e5 : type_of% @binS.eq_5 := @binS.eq_5
theorem binS_e6 : type_of% @binS.eq_6 := @binS.eq_6
theorem binS_e7 : type_of% @binS.eq_7 := @binS.eq_7
theorem binS_e8 : type_of% @binS.eq_8 := @binS.eq_8
theorem binS_e9 : type_of% @binS.eq_9 := @binS.eq_9
theorem binS_e10 : type_of% @binS.eq_10 := @binS.eq_10
theorem binS_e11 : type_of% @binS.eq_11 := @binS.eq_11
theorem binS_e12 : type_of% @binS.eq_12 := @binS.eq_12
theorem binS_e13 : type_of% @binS.eq_13 := @binS.eq_13
theorem binS_e14 : type_of% @binS.eq_14 := @binS.eq_14
theorem binS_e15 : type_of% @binS.eq_15 := @binS.eq_15
theorem binS_e16 : type_of% @binS.eq_16 := @binS.eq_16
theorem binS_e17 : type_of% @binS.eq_17 := @binS.eq_17
theorem binS_e18 : type_of% @binS.eq_18 := @binS.eq_18
theorem binS_e19 : type_of% @binS.eq_19 := @binS.eq_19
theorem binS_e20 : type_of% @binS.eq_20 := @binS.eq_20
theorem binS_e21 : type_of% @binS.eq_21 := @binS.eq_21
theorem binS_e22 : type_of% @binS.eq_22 := @binS.eq_22
theorem binS_e23 : type_of% @binS.eq_23 := @binS.eq_23
theorem binS_e24 : type_of% @binS.eq_24 := @binS.eq_24
theorem binS_e25 : type_of% @binS.eq_25 := @binS.eq_25
theorem binS_e26 : type_of% @binS.eq_26 := @binS.eq_26
theorem binS_e27 : type_of% @binS.eq_27 := @binS.eq_27
theorem binI_e1 : type_of% @binI.eq_1 := @binI.eq_1
theorem binI_e2 : type_of% @binI.eq_2 := @binI.eq_2
theorem binI_e3 : type_of% @binI.eq_3 := @binI.eq_3
theorem binI_e4 : type_of% @binI.eq_4 := @binI.eq_4
theorem binI_e5 : type_of% @binI.eq_5 := @binI.eq_5
theorem binI_e6 : type_of% @binI.eq_6 := @binI.eq_6
theorem binI_e7 : type_of% @binI.eq_7 := @binI.eq_7
theorem binI_e8 : type_of% @binI.eq_8 := @binI.eq_8
theorem binI_e9 : type_of% @binI.eq_9 := @binI.eq_9
theorem binI_e10 : type_of% @binI.eq_10 := @binI.eq_10
theorem binI_e11 : type_of% @binI.eq_11 := @binI.eq_11
theorem binI_e12 : type_of% @binI.eq_12 := @binI.eq_12
theorem binI_e13 : type_of% @binI.eq_13 := @binI.eq_13
theorem binI_e14 : type_of% @binI.eq_14 := @binI.eq_14
theorem binI_e15 : type_of% @binI.eq_15 := @binI.eq_15
theorem binI_e16 : type_of% @binI.eq_16 := @binI.eq_16
theorem opB_e1 : type_of% @opB.eq_1 := @opB.eq_1
theorem opB_e2 : type_of% @opB.eq_2 := @opB.eq_2
theorem opB_e3 : type_of% @opB.eq_3 := @opB.eq_3
theorem opB_e4 : type_of% @opB.eq_4 := @opB.eq_4
theorem opB_e5 : type_of% @opB.eq_5 := @opB.eq_5
theorem opB_e6 : type_of% @opB.eq_6 := @opB.eq_6
theorem opB_e7 : type_of% @opB.eq_7 := @opB.eq_7
theorem opB_e8 : type_of% @opB.eq_8 := @opB.eq_8
theorem opB_e9 : type_of% @opB.eq_9 := @opB.eq_9
theorem opB_e10 : type_of% @opB.eq_10 := @opB.eq_10
theorem opB_e11 : type_of% @opB.eq_11 := @opB.eq_11
theorem opB_e12 : type_of% @opB.eq_12 := @opB.eq_12
theorem opAppend_e1 : type_of% @opAppend.eq_1 := @opAppend.eq_1
theorem opAppend_e2 : type_of% @opAppend.eq_2 := @opAppend.eq_2
theorem opAppend_e3 : type_of% @opAppend.eq_3 := @opAppend.eq_3
theorem srcOf_e1 : type_of% @srcOf.eq_1 := @srcOf.eq_1
theorem srcOf_e2 : type_of% @srcOf.eq_2 := @srcOf.eq_2
theorem srcOf_e3 : type_of% @srcOf.eq_3 := @srcOf.eq_3
theorem stepR_e1 : type_of% @stepR.eq_1 := @stepR.eq_1
theorem stepR_e2 : type_of% @stepR.eq_2 := @stepR.eq_2
theorem stepR_e3 : type_of% @stepR.eq_3 := @stepR.eq_3
theorem stepR_e4 : type_of% @stepR.eq_4 := @stepR.eq_4
theorem stepR_e5 : type_of% @stepR.eq_5 := @stepR.eq_5
theorem stepR_e6 : type_of% @stepR.eq_6 := @stepR.eq_6
theorem stepU_e1 : type_of% @stepU.eq_1 := @stepU.eq_1
theorem stepU_e2 : type_of% @stepU.eq_2 := @stepU.eq_2
theorem stepU_e3 : type_of% @stepU.eq_3 := @stepU.eq_3
theorem stepU_e4 : type_of% @stepU.eq_4 := @stepU.eq_4
theorem stepU_e5 : type_of% @stepU.eq_5 := @stepU.eq_5
theorem stepU_e6 : type_of% @stepU.eq_6 := @stepU.eq_6
theorem andR_e1 : type_of% @andR.eq_1 := @andR.eq_1
theorem andR_e2 : type_of% @andR.eq_2 := @andR.eq_2
theorem andR_e3 : type_of% @andR.eq_3 := @andR.eq_3
theorem andR_e4 : type_of% @andR.eq_4 := @andR.eq_4
theorem andR_e5 : type_of% @andR.eq_5 := @andR.eq_5
theorem andR_e6 : type_of% @andR.eq_6 := @andR.eq_6
theorem opE_e1 : type_of% @opE.eq_1 := @opE.eq_1
theorem opE_e2 : type_of% @opE.eq_2 := @opE.eq_2
theorem pickE_e1 : type_of% @pickE.eq_1 := @pickE.eq_1
theorem pickE_e2 : type_of% @pickE.eq_2 := @pickE.eq_2
theorem pickE_e3 : type_of% @pickE.eq_3 := @pickE.eq_3
theorem boolOf_e1 : type_of% @boolOf.eq_1 := @boolOf.eq_1
theorem cellsOf_e1 : type_of% @cellsOf.eq_1 := @cellsOf.eq_1
theorem cellsOf_e2 : type_of% @cellsOf.eq_2 := @cellsOf.eq_2
theorem intOr_e1 : type_of% @intOr.eq_1 := @intOr.eq_1
theorem intOr_e2 : type_of% @intOr.eq_2 := @intOr.eq_2
theorem sliceOps_e1 : type_of% @sliceOps.eq_1 := @sliceOps.eq_1
theorem sliceOps_e2 : type_of% @sliceOps.eq_2 := @sliceOps.eq_2
theorem sliceOps_e3 : type_of% @sliceOps.eq_3 := @sliceOps.eq_3
theorem sliceOps_e4 : type_of% @sliceOps.eq_4 := @sliceOps.eq_4
theorem sliceOps_e5 : type_of% @sliceOps.eq_5 := @sliceOps.eq_5
theorem sliceOps_e6 : type_of% @sliceOps.eq_6 := @sliceOps.eq_6
theorem guardVal_e1 : type_of% @guardVal.eq_1 := @guardVal.eq_1
theorem guardVal_e2 : type_of% @guardVal.eq_2 := @guardVal.eq_2
theorem undV_e1 : type_of% @undV.eq_1 := @undV.eq_1
theorem isC_e1 : type_of% @isC.eq_1 := @isC.eq_1
theorem isC_e2 : type_of% @isC.eq_2 := @isC.eq_2
theorem isC_e3 : type_of% @isC.eq_3 := @isC.eq_3
theorem isC_e4 : type_of% @isC.eq_4 := @isC.eq_4
theorem constV_e1 : type_of% @constV.eq_1 := @constV.eq_1
theorem constV_e2 : type_of% @constV.eq_2 := @constV.eq_2
theorem constV_e3 : type_of% @constV.eq_3 := @constV.eq_3
theorem ev_e1 : type_of% @ev.eq_1 := @ev.eq_1
theorem ev_e2 : type_of% @ev.eq_2 := @ev.eq_2
theorem ev_e3 : type_of% @ev.eq_3 := @ev.eq_3
theorem ev_e4 : type_of% @ev.eq_4 := @ev.eq_4
theorem stepU_vc {P : Program} {xn : XN} {g ben : Bool} {o : Oper} {all : List Oper} {r : List (Oper × Bool)} {k : List KI} {σ : St} {Q : XE → St → Prop} {p : Prop} {x : SC} : stepU P xn g ben o all r k σ Q (.val p (.c x)) = ((g = true → p) ∧ xn (.ops all r :: k) ⟨σ.nm, put o.dst (.und g x) σ.tm, σ.hp⟩ Q) := rfl
theorem stepU_va {P : Program} {xn : XN} {g ben : Bool} {o : Oper} {all : List Oper} {r : List (Oper × Bool)} {k : List KI} {σ : St} {Q : XE → St → Prop} {p : Prop} {x : List SC} : stepU P xn g ben o all r k σ Q (.val p (.agg x)) = XBr xn g (.ops all (({ o with guard := none }, ben) :: r) :: k) (.ops all r :: k) σ ⟨σ.nm, put o.dst skipV σ.tm, σ.hp⟩ Q := rfl
theorem stepU_vt {P : Program} {xn : XN} {g ben : Bool} {o : Oper} {all : List Oper} {r : List (Oper × Bool)} {k : List KI} {σ : St} {Q : XE → St → Prop} {p : Prop} {x : List (Bool × List SC)} : stepU P xn g ben o all r k σ Q (.val p (.tup x)) = XBr xn g (.ops all (({ o with guard := none }, ben) :: r) :: k) (.ops all r :: k) σ ⟨σ.nm, put o.dst skipV σ.tm, σ.hp⟩ Q := rfl
theorem stepR_cf {P : Program} {xn : XN} {o : Oper} {k : List KI} {σ : St} {Q : XE → St → Prop} {p : Prop} {f : FuncId} {args : List SV} : stepR P xn false o k σ Q (.call p f args) = (p ∧ CallGoal P xn f args o.dst k σ Q) := rfl
theorem stepR_ct {P : Program} {xn : XN} {o : Oper} {k : List KI} {σ : St} {Q : XE → St → Prop} {p : Prop} {f : FuncId} {args : List SV} : stepR P xn true o k σ Q (.call p f args) = (p ∧ CallGoalB P xn f args o.dst k σ Q) := rfl
theorem copy_sl {T : TypeId → Option TI} {h : List SB} {t t' : TypeId} {i o n c j q m d : Nat} : opB T h .copy [t, t'] [.c (.sl i o n c), .c (.sl j q m d)] = match T t with
    | some ⟨.slice e, _, _, _⟩ => match T e with
      | some ti => match srcOf h ti.size (.sl j q m d) with
        | some (p, news, m) => .mem (p ∧ ownW h i = true ∧ o + min m n * ti.size ≤ lenW h i) (.c (.v (.int .i64 (min m n : Nat)))) (lay h i o (news.take (min m n * ti.size)))
        | none => .bad
      | none => .bad
    | _ => .bad := rfl
theorem copy_ro {T : TypeId → Option TI} {h : List SB} {t t' : TypeId} {i o n c m d : Nat} {cs : List RC} : opB T h .copy [t, t'] [.c (.sl i o n c), .c (.ro cs m d)] = match T t with
    | some ⟨.slice e, _, _, _⟩ => match T e with
      | some ti => match srcOf h ti.size (.ro cs m d) with
        | some (p, news, m) => .mem (p ∧ ownW h i = true ∧ o + min m n * ti.size ≤ lenW h i) (.c (.v (.int .i64 (min m n : Nat)))) (lay h i o (news.take (min m n * ti.size)))
        | none => .bad
      | none => .bad
    | _ => .bad := rfl
theorem copy_nl {T : TypeId → Option TI} {h : List SB} {t t' : TypeId} {i o n c : Nat} : opB T h .copy [t, t'] [.c (.sl i o n c), .c (.v (.slice none 0 0))] = match T t with
    | some ⟨.slice e, _, _, _⟩ => match T e with
      | some ti => match srcOf h ti.size (.v (.slice none 0 0)) with
        | some (p, news, m) => .mem (p ∧ ownW h i = true ∧ o + min m n * ti.size ≤ lenW h i) (.c (.v (.int .i64 (min m n : Nat)))) (lay h i o (news.take (min m n * ti.size)))
        | none => .bad
      | none => .bad
    | _ => .bad := rfl
theorem binS_se {sz : List Bool} {fl : Bool} {a : Addr} {n c n' c' : Nat} {e : TypeId} : binS (.slice e) sz fl .eql (.c (.v (.slice (some a) n c))) (.c (.v (.slice none n' c'))) = .val True (.c (.v (.bool false))) := rfl
theorem binS_sn {sz : List Bool} {fl : Bool} {a : Addr} {n c n' c' : Nat} {e : TypeId} : binS (.slice e) sz fl .neq (.c (.v (.slice (some a) n c))) (.c (.v (.slice none n' c'))) = .val True (.c (.v (.bool true))) := rfl
theorem srcOf_s {h : List SB} {sz : Nat} {a : Addr} : srcOf h sz (.v (.slice (some a) 0 0)) = some (True, [], 0) := rfl
end Go.Proofs.Ythbojoiogjdbeaa.Sx
