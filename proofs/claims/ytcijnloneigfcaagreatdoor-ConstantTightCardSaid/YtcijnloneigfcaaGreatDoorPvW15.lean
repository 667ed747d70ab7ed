/-
  ConstantTight, printed by w15.py. Conditions: as the theorems say.
-/
import Derived.Test.YtcijnloneigfcaaGreatDoorPvW14
set_option linter.unusedVariables false
set_option linter.unusedSimpArgs false
namespace Go.Proofs.YtcijnloneigfcaaGreatDoor
open Go.RowKit
set_option maxRecDepth 100000

def l13_tight_in_mk (k j a b : Int) (x : (Int) ⊕ ((Int) ⊕ ((Int) ⊕ (Int)))) : St := Sum.elim (fun (x : Int) => ⟨mkS 55 [(4, (.val (.int .i64 k))), (5, (.own 1 0)), (6, (.own 2 0)), (7, (.own 3 0)), (15, (.osl 0 0 2 1)), (16, (.val (.int .i64 2))), (17, (.val (.int .i64 j))), (28, (.val (.int .i64 0)))], [⟨true, false, [(V.int .i64 a), (V.int .i64 b)]⟩, ⟨true, false, [(V.bool (decide ((piA k) < 0))), (N ((piA k).natAbs)), (V.int .i64 (piB k)), (V.bool (decide ((piC k) < 0))), (N ((piC k).natAbs)), (V.int .i64 (piD k)), (V.bool (decide ((eA k) < 0))), (N ((eA k).natAbs)), (V.int .i64 (eB k)), (V.bool (decide ((eC k) < 0))), (N ((eC k).natAbs)), (V.int .i64 (eD k)), (V.bool (decide ((lnA k) < 0))), (N ((lnA k).natAbs)), (V.int .i64 (lnB k)), (V.bool (decide ((lnC k) < 0))), (N ((lnC k).natAbs)), (V.int .i64 (lnD k))]⟩, ⟨true, false, [(V.int .i64 0), (V.int .i64 0), (V.int .i64 0)]⟩, ⟨true, false, [(V.bool (decide ((piP k) < 0))), (N ((piP k).natAbs)), (V.int .i64 (piQ k)), (V.bool (decide ((piR k) < 0))), (N ((piR k).natAbs)), (V.int .i64 (piS k)), (V.bool (decide ((eP k) < 0))), (N ((eP k).natAbs)), (V.int .i64 (eQ k)), (V.bool (decide ((eR k) < 0))), (N ((eR k).natAbs)), (V.int .i64 (eS k)), (V.bool (decide ((lnP k) < 0))), (N ((lnP k).natAbs)), (V.int .i64 (lnQ k)), (V.bool (decide ((lnR k) < 0))), (N ((lnR k).natAbs)), (V.int .i64 (lnS k))]⟩]⟩) (fun (x : (Int) ⊕ ((Int) ⊕ (Int))) => Sum.elim (fun (x : Int) => ⟨mkS 55 [(4, (.val (.int .i64 k))), (5, (.own 1 0)), (6, (.own 2 0)), (7, (.own 3 0)), (15, (.osl 0 0 2 1)), (16, (.val (.int .i64 2))), (17, (.val (.int .i64 j))), (28, (.val (.int .i64 1)))], [⟨true, false, [(V.int .i64 a), (V.int .i64 b)]⟩, ⟨true, false, [(V.bool (decide ((piA k) < 0))), (N ((piA k).natAbs)), (V.int .i64 (piB k)), (V.bool (decide ((piC k) < 0))), (N ((piC k).natAbs)), (V.int .i64 (piD k)), (V.bool (decide ((eA k) < 0))), (N ((eA k).natAbs)), (V.int .i64 (eB k)), (V.bool (decide ((eC k) < 0))), (N ((eC k).natAbs)), (V.int .i64 (eD k)), (V.bool (decide ((lnA k) < 0))), (N ((lnA k).natAbs)), (V.int .i64 (lnB k)), (V.bool (decide ((lnC k) < 0))), (N ((lnC k).natAbs)), (V.int .i64 (lnD k))]⟩, ⟨true, false, [(V.int .i64 0), (V.int .i64 0), (V.int .i64 0)]⟩, ⟨true, false, [(V.bool (decide ((piP k) < 0))), (N ((piP k).natAbs)), (V.int .i64 (piQ k)), (V.bool (decide ((piR k) < 0))), (N ((piR k).natAbs)), (V.int .i64 (piS k)), (V.bool (decide ((eP k) < 0))), (N ((eP k).natAbs)), (V.int .i64 (eQ k)), (V.bool (decide ((eR k) < 0))), (N ((eR k).natAbs)), (V.int .i64 (eS k)), (V.bool (decide ((lnP k) < 0))), (N ((lnP k).natAbs)), (V.int .i64 (lnQ k)), (V.bool (decide ((lnR k) < 0))), (N ((lnR k).natAbs)), (V.int .i64 (lnS k))]⟩]⟩) (fun (x : (Int) ⊕ (Int)) => Sum.elim (fun (x : Int) => ⟨mkS 55 [(4, (.val (.int .i64 k))), (5, (.own 1 0)), (6, (.own 2 0)), (7, (.own 3 0)), (15, (.osl 0 0 2 1)), (16, (.val (.int .i64 2))), (17, (.val (.int .i64 j))), (28, (.val (.int .i64 2)))], [⟨true, false, [(V.int .i64 a), (V.int .i64 b)]⟩, ⟨true, false, [(V.bool (decide ((piA k) < 0))), (N ((piA k).natAbs)), (V.int .i64 (piB k)), (V.bool (decide ((piC k) < 0))), (N ((piC k).natAbs)), (V.int .i64 (piD k)), (V.bool (decide ((eA k) < 0))), (N ((eA k).natAbs)), (V.int .i64 (eB k)), (V.bool (decide ((eC k) < 0))), (N ((eC k).natAbs)), (V.int .i64 (eD k)), (V.bool (decide ((lnA k) < 0))), (N ((lnA k).natAbs)), (V.int .i64 (lnB k)), (V.bool (decide ((lnC k) < 0))), (N ((lnC k).natAbs)), (V.int .i64 (lnD k))]⟩, ⟨true, false, [(V.int .i64 0), (V.int .i64 0), (V.int .i64 0)]⟩, ⟨true, false, [(V.bool (decide ((piP k) < 0))), (N ((piP k).natAbs)), (V.int .i64 (piQ k)), (V.bool (decide ((piR k) < 0))), (N ((piR k).natAbs)), (V.int .i64 (piS k)), (V.bool (decide ((eP k) < 0))), (N ((eP k).natAbs)), (V.int .i64 (eQ k)), (V.bool (decide ((eR k) < 0))), (N ((eR k).natAbs)), (V.int .i64 (eS k)), (V.bool (decide ((lnP k) < 0))), (N ((lnP k).natAbs)), (V.int .i64 (lnQ k)), (V.bool (decide ((lnR k) < 0))), (N ((lnR k).natAbs)), (V.int .i64 (lnS k))]⟩]⟩) (fun (x : Int) => ⟨mkS 55 [(4, (.val (.int .i64 k))), (5, (.own 1 0)), (6, (.own 2 0)), (7, (.own 3 0)), (15, (.osl 0 0 2 1)), (16, (.val (.int .i64 2))), (17, (.val (.int .i64 j))), (28, (.val (.int .i64 3)))], [⟨true, false, [(V.int .i64 a), (V.int .i64 b)]⟩, ⟨true, false, [(V.bool (decide ((piA k) < 0))), (N ((piA k).natAbs)), (V.int .i64 (piB k)), (V.bool (decide ((piC k) < 0))), (N ((piC k).natAbs)), (V.int .i64 (piD k)), (V.bool (decide ((eA k) < 0))), (N ((eA k).natAbs)), (V.int .i64 (eB k)), (V.bool (decide ((eC k) < 0))), (N ((eC k).natAbs)), (V.int .i64 (eD k)), (V.bool (decide ((lnA k) < 0))), (N ((lnA k).natAbs)), (V.int .i64 (lnB k)), (V.bool (decide ((lnC k) < 0))), (N ((lnC k).natAbs)), (V.int .i64 (lnD k))]⟩, ⟨true, false, [(V.int .i64 0), (V.int .i64 0), (V.int .i64 0)]⟩, ⟨true, false, [(V.bool (decide ((piP k) < 0))), (N ((piP k).natAbs)), (V.int .i64 (piQ k)), (V.bool (decide ((piR k) < 0))), (N ((piR k).natAbs)), (V.int .i64 (piS k)), (V.bool (decide ((eP k) < 0))), (N ((eP k).natAbs)), (V.int .i64 (eQ k)), (V.bool (decide ((eR k) < 0))), (N ((eR k).natAbs)), (V.int .i64 (eS k)), (V.bool (decide ((lnP k) < 0))), (N ((lnP k).natAbs)), (V.int .i64 (lnQ k)), (V.bool (decide ((lnR k) < 0))), (N ((lnR k).natAbs)), (V.int .i64 (lnS k))]⟩]⟩) x) x) x
def l13_tight_in_I (k j a b : Int) (x : (Int) ⊕ ((Int) ⊕ ((Int) ⊕ (Int)))) : Prop := Sum.elim (fun (x : Int) => x = x) (fun (x : (Int) ⊕ ((Int) ⊕ (Int))) => Sum.elim (fun (x : Int) => x = x) (fun (x : (Int) ⊕ (Int)) => Sum.elim (fun (x : Int) => x = x) (fun (x : Int) => x = x) x) x) x
def l13_tight_in_mu (k j a b : Int) (x : (Int) ⊕ ((Int) ⊕ ((Int) ⊕ (Int)))) : Nat := Sum.elim (fun (x : Int) => 9 - 0) (fun (x : (Int) ⊕ ((Int) ⊕ (Int))) => Sum.elim (fun (x : Int) => 9 - 1) (fun (x : (Int) ⊕ (Int)) => Sum.elim (fun (x : Int) => 9 - 2) (fun (x : Int) => 9 - 3) x) x) x
def l13_tight_in_ex (k j a b : Int) (y : Int) : Ex × St := (.exit 2, ⟨mkS 55 [(15, (.osl 0 0 2 1)), (16, (.val (.int .i64 2))), (17, (.val (.int .i64 j)))], [⟨true, false, [(V.int .i64 a), (V.int .i64 b)]⟩]⟩)
def l13_tight_in_J (k j a b : Int) (y : Int) : Prop := y = y
theorem l13_tight_in (k j a b : Int) (c0 : 0 ≤ k ∧ k < 300) (x0 : (Int) ⊕ ((Int) ⊕ ((Int) ⊕ (Int)))) (hI : l13_tight_in_I k j a b x0) : LoopOk Tryz.prog Amb (loopN Tryz.f3 1) (l13_tight_in_mk k j a b x0) (fun e st_ => ∃ y, l13_tight_in_J k j a b y ∧ l13_tight_in_ex k j a b y = (e, st_)) :=
  loop_ob hP hAmb ⟨[4, 5, 6, 7, 15, 16, 17, 28], 4, []⟩ (l13_tight_in_mk k j a b) (l13_tight_in_I k j a b) (l13_tight_in_mu k j a b) (l13_tight_in_ex k j a b) (l13_tight_in_J k j a b) x0 hI (Sum.elim (fun u => .lits 13 <| .call (.bool (tgB (piA k) (piB k) (piC k) (piD k) k)) <| .lits 3 <| .no <| .lits 11 <| .call (.bool (iEq (ivCmp (piA k) (piB k) (piC k) (piD k) (piP k) (piQ k) (piR k) (piS k)) 0)) <| .lits 3 <| .no <| .lit <| .yes <| .fin2 ⟨[4, 5, 6, 7, 15, 16, 17, 28], 4, []⟩) (Sum.elim (fun u => .lits 13 <| .call (.bool (tgB (eA k) (eB k) (eC k) (eD k) k)) <| .lits 3 <| .no <| .lits 11 <| .call (.bool (iEq (ivCmp (eA k) (eB k) (eC k) (eD k) (eP k) (eQ k) (eR k) (eS k)) 0)) <| .lits 3 <| .no <| .lit <| .yes <| .fin2 ⟨[4, 5, 6, 7, 15, 16, 17, 28], 4, []⟩) (Sum.elim (fun u => .lits 13 <| .call (.bool (tgB (lnA k) (lnB k) (lnC k) (lnD k) k)) <| .lits 3 <| .no <| .lits 11 <| .call (.bool (iEq (ivCmp (lnA k) (lnB k) (lnC k) (lnD k) (lnP k) (lnQ k) (lnR k) (lnS k)) 0)) <| .lits 3 <| .no <| .lit <| .yes <| .fin2 ⟨[4, 5, 6, 7, 15, 16, 17, 28], 4, []⟩) (fun u => .lits 2 <| .fin2 ⟨[15, 16, 17], 1, []⟩)))) (by
    rintro (u | u | u | u) hI
    · skip
      have hI : u = u := hI
      have h1 := hI
      have z0 : L (0 : Int).natAbs = 0 := L_zero
      have qp := ckB_spec (ckv_pi (w := k) (by omega))
      have qe := ckB_spec (ckv_e (w := k) (by omega))
      have ql := ckB_spec (ckv_ln (w := k) (by omega))
      have rpi := pi_facts k
      have spi := pi_factsN k
      have re := e_facts k
      have se := e_factsN k
      have rln := ln_facts k
      have sln := ln_factsN k
      exact cast_ob (And.intro True.intro (And.intro (r13_Tight (piA k) (piB k) (piC k) (piD k) k (by omega) (by omega) (by omega)) (And.intro (not_of (ckT_pi c0) : (!(tgB (piA k) (piB k) (piC k) (piD k) k)) = false) (And.intro (r13_Touches (piA k) (piB k) (piC k) (piD k) (piP k) (piQ k) (piR k) (piS k) (by omega) (by omega) (by omega) (by omega) (by omega) (by omega) (by omega) (by omega)) (And.intro (not_of (ckM_pi c0) : (!(iEq (ivCmp (piA k) (piB k) (piC k) (piD k) (piP k) (piQ k) (piR k) (piS k)) 0)) = false) (And.intro (rfl : true = true) (And.intro (rfl : true = true) ((nx_next (Sum.inr (Sum.inl u)) (show u = u from rfl) (show 9 - 1 < 9 - 0 by omega) : NX (l13_tight_in_mk k j a b) (l13_tight_in_I k j a b) (l13_tight_in_mu k j a b) (l13_tight_in_ex k j a b) (l13_tight_in_J k j a b) (Sum.inl u) .normal (l13_tight_in_mk k j a b (Sum.inr (Sum.inl u)))))))))))) (by kernel_rfl)
    · skip
      have hI : u = u := hI
      have h1 := hI
      have z0 : L (0 : Int).natAbs = 0 := L_zero
      have qp := ckB_spec (ckv_pi (w := k) (by omega))
      have qe := ckB_spec (ckv_e (w := k) (by omega))
      have ql := ckB_spec (ckv_ln (w := k) (by omega))
      have rpi := pi_facts k
      have spi := pi_factsN k
      have re := e_facts k
      have se := e_factsN k
      have rln := ln_facts k
      have sln := ln_factsN k
      exact cast_ob (And.intro True.intro (And.intro (r13_Tight (eA k) (eB k) (eC k) (eD k) k (by omega) (by omega) (by omega)) (And.intro (not_of (ckT_e c0) : (!(tgB (eA k) (eB k) (eC k) (eD k) k)) = false) (And.intro (r13_Touches (eA k) (eB k) (eC k) (eD k) (eP k) (eQ k) (eR k) (eS k) (by omega) (by omega) (by omega) (by omega) (by omega) (by omega) (by omega) (by omega)) (And.intro (not_of (ckM_e c0) : (!(iEq (ivCmp (eA k) (eB k) (eC k) (eD k) (eP k) (eQ k) (eR k) (eS k)) 0)) = false) (And.intro (rfl : true = true) (And.intro (rfl : true = true) ((nx_next (Sum.inr (Sum.inr (Sum.inl u))) (show u = u from rfl) (show 9 - 2 < 9 - 1 by omega) : NX (l13_tight_in_mk k j a b) (l13_tight_in_I k j a b) (l13_tight_in_mu k j a b) (l13_tight_in_ex k j a b) (l13_tight_in_J k j a b) (Sum.inr (Sum.inl u)) .normal (l13_tight_in_mk k j a b (Sum.inr (Sum.inr (Sum.inl u))))))))))))) (by kernel_rfl)
    · skip
      have hI : u = u := hI
      have h1 := hI
      have z0 : L (0 : Int).natAbs = 0 := L_zero
      have qp := ckB_spec (ckv_pi (w := k) (by omega))
      have qe := ckB_spec (ckv_e (w := k) (by omega))
      have ql := ckB_spec (ckv_ln (w := k) (by omega))
      have rpi := pi_facts k
      have spi := pi_factsN k
      have re := e_facts k
      have se := e_factsN k
      have rln := ln_facts k
      have sln := ln_factsN k
      exact cast_ob (And.intro True.intro (And.intro (r13_Tight (lnA k) (lnB k) (lnC k) (lnD k) k (by omega) (by omega) (by omega)) (And.intro (not_of (ckT_ln c0) : (!(tgB (lnA k) (lnB k) (lnC k) (lnD k) k)) = false) (And.intro (r13_Touches (lnA k) (lnB k) (lnC k) (lnD k) (lnP k) (lnQ k) (lnR k) (lnS k) (by omega) (by omega) (by omega) (by omega) (by omega) (by omega) (by omega) (by omega)) (And.intro (not_of (ckM_ln c0) : (!(iEq (ivCmp (lnA k) (lnB k) (lnC k) (lnD k) (lnP k) (lnQ k) (lnR k) (lnS k)) 0)) = false) (And.intro (rfl : true = true) (And.intro (rfl : true = true) ((nx_next (Sum.inr (Sum.inr (Sum.inr u))) (show u = u from rfl) (show 9 - 3 < 9 - 2 by omega) : NX (l13_tight_in_mk k j a b) (l13_tight_in_I k j a b) (l13_tight_in_mu k j a b) (l13_tight_in_ex k j a b) (l13_tight_in_J k j a b) (Sum.inr (Sum.inr (Sum.inl u))) .normal (l13_tight_in_mk k j a b (Sum.inr (Sum.inr (Sum.inr u))))))))))))) (by kernel_rfl)
    · skip
      have hI : u = u := hI
      have h1 := hI
      have z0 : L (0 : Int).natAbs = 0 := L_zero
      have qp := ckB_spec (ckv_pi (w := k) (by omega))
      have qe := ckB_spec (ckv_e (w := k) (by omega))
      have ql := ckB_spec (ckv_ln (w := k) (by omega))
      have rpi := pi_facts k
      have spi := pi_factsN k
      have re := e_facts k
      have se := e_factsN k
      have rln := ln_facts k
      have sln := ln_factsN k
      exact cast_ob (And.intro True.intro (And.intro (rfl : true = true) ((nx_exit 2 ((l13_tight_in_ex k j a b u).2) u (show u = u from rfl) rfl : NX (l13_tight_in_mk k j a b) (l13_tight_in_I k j a b) (l13_tight_in_mu k j a b) (l13_tight_in_ex k j a b) (l13_tight_in_J k j a b) (Sum.inr (Sum.inr (Sum.inr u))) (.exit 2) ((l13_tight_in_ex k j a b u).2))))) (by kernel_rfl))


def l13_tight_out_mk (a b : Int) (x : (Int) ⊕ ((Int) ⊕ (Int))) : St := Sum.elim (fun (x : Int) => ⟨mkS 55 [(15, (.osl 0 0 2 1)), (16, (.val (.int .i64 2))), (17, (.val (.int .i64 0)))], [⟨true, false, [(V.int .i64 a), (V.int .i64 b)]⟩]⟩) (fun (x : (Int) ⊕ (Int)) => Sum.elim (fun (x : Int) => ⟨mkS 55 [(15, (.osl 0 0 2 1)), (16, (.val (.int .i64 2))), (17, (.val (.int .i64 1)))], [⟨true, false, [(V.int .i64 a), (V.int .i64 b)]⟩]⟩) (fun (x : Int) => ⟨mkS 55 [(15, (.osl 0 0 2 1)), (16, (.val (.int .i64 2))), (17, (.val (.int .i64 2)))], [⟨true, false, [(V.int .i64 a), (V.int .i64 b)]⟩]⟩) x) x
def l13_tight_out_I (a b : Int) (x : (Int) ⊕ ((Int) ⊕ (Int))) : Prop := Sum.elim (fun (x : Int) => x = x) (fun (x : (Int) ⊕ (Int)) => Sum.elim (fun (x : Int) => x = x) (fun (x : Int) => x = x) x) x
def l13_tight_out_mu (a b : Int) (x : (Int) ⊕ ((Int) ⊕ (Int))) : Nat := Sum.elim (fun (x : Int) => 9 - 0) (fun (x : (Int) ⊕ (Int)) => Sum.elim (fun (x : Int) => 9 - 1) (fun (x : Int) => 9 - 2) x) x
def l13_tight_out_ex (a b : Int) (y : Int) : Ex × St := (.exit 0, ⟨mkS 55 [], []⟩)
def l13_tight_out_J (a b : Int) (y : Int) : Prop := y = y
theorem l13_tight_out (a b : Int) (c0 : 0 ≤ a ∧ a < 300)(c1 : 0 ≤ b ∧ b < 300) (x0 : (Int) ⊕ ((Int) ⊕ (Int))) (hI : l13_tight_out_I a b x0) : LoopOk Tryz.prog Amb (loopN Tryz.f3 0) (l13_tight_out_mk a b x0) (fun e st_ => ∃ y, l13_tight_out_J a b y ∧ l13_tight_out_ex a b y = (e, st_)) :=
  loop_ob hP hAmb ⟨[15, 16, 17], 1, []⟩ (l13_tight_out_mk a b) (l13_tight_out_I a b) (l13_tight_out_mu a b) (l13_tight_out_ex a b) (l13_tight_out_J a b) x0 hI (Sum.elim (fun u => .lits 5 <| .call (.tup [(.agg [(.bool (decide ((piA a) < 0))), (N ((piA a).natAbs)), (.int .i64 (piB a)), (.bool (decide ((piC a) < 0))), (N ((piC a).natAbs)), (.int .i64 (piD a)), (.bool (decide ((eA a) < 0))), (N ((eA a).natAbs)), (.int .i64 (eB a)), (.bool (decide ((eC a) < 0))), (N ((eC a).natAbs)), (.int .i64 (eD a)), (.bool (decide ((lnA a) < 0))), (N ((lnA a).natAbs)), (.int .i64 (lnB a)), (.bool (decide ((lnC a) < 0))), (N ((lnC a).natAbs)), (.int .i64 (lnD a))]), (.agg [(.int .i64 0), (.int .i64 0), (.int .i64 0)])]) <| .lits 3 <| .call (.agg [(.bool (decide ((piP a) < 0))), (N ((piP a).natAbs)), (.int .i64 (piQ a)), (.bool (decide ((piR a) < 0))), (N ((piR a).natAbs)), (.int .i64 (piS a)), (.bool (decide ((eP a) < 0))), (N ((eP a).natAbs)), (.int .i64 (eQ a)), (.bool (decide ((eR a) < 0))), (N ((eR a).natAbs)), (.int .i64 (eS a)), (.bool (decide ((lnP a) < 0))), (N ((lnP a).natAbs)), (.int .i64 (lnQ a)), (.bool (decide ((lnR a) < 0))), (N ((lnR a).natAbs)), (.int .i64 (lnS a))]) <| .lit <| .loop ⟨[4, 5, 6, 7, 15, 16, 17, 28], 4, []⟩ ((l13_tight_in_mk a 0 a b (Sum.inl (0 : Int)))) (Int) (l13_tight_in_ex a 0 a b) (l13_tight_in_J a 0 a b) (fun y => .lit <| .yes <| .fin2 ⟨[15, 16, 17], 1, []⟩)) (Sum.elim (fun u => .lits 5 <| .call (.tup [(.agg [(.bool (decide ((piA b) < 0))), (N ((piA b).natAbs)), (.int .i64 (piB b)), (.bool (decide ((piC b) < 0))), (N ((piC b).natAbs)), (.int .i64 (piD b)), (.bool (decide ((eA b) < 0))), (N ((eA b).natAbs)), (.int .i64 (eB b)), (.bool (decide ((eC b) < 0))), (N ((eC b).natAbs)), (.int .i64 (eD b)), (.bool (decide ((lnA b) < 0))), (N ((lnA b).natAbs)), (.int .i64 (lnB b)), (.bool (decide ((lnC b) < 0))), (N ((lnC b).natAbs)), (.int .i64 (lnD b))]), (.agg [(.int .i64 0), (.int .i64 0), (.int .i64 0)])]) <| .lits 3 <| .call (.agg [(.bool (decide ((piP b) < 0))), (N ((piP b).natAbs)), (.int .i64 (piQ b)), (.bool (decide ((piR b) < 0))), (N ((piR b).natAbs)), (.int .i64 (piS b)), (.bool (decide ((eP b) < 0))), (N ((eP b).natAbs)), (.int .i64 (eQ b)), (.bool (decide ((eR b) < 0))), (N ((eR b).natAbs)), (.int .i64 (eS b)), (.bool (decide ((lnP b) < 0))), (N ((lnP b).natAbs)), (.int .i64 (lnQ b)), (.bool (decide ((lnR b) < 0))), (N ((lnR b).natAbs)), (.int .i64 (lnS b))]) <| .lit <| .loop ⟨[4, 5, 6, 7, 15, 16, 17, 28], 4, []⟩ ((l13_tight_in_mk b 1 a b (Sum.inl (0 : Int)))) (Int) (l13_tight_in_ex b 1 a b) (l13_tight_in_J b 1 a b) (fun y => .lit <| .yes <| .fin2 ⟨[15, 16, 17], 1, []⟩)) (fun u => .lits 2 <| .fin2 ⟨[], 0, []⟩))) (by
    rintro (u | u | u) hI
    · skip
      have hI : u = u := hI
      have h1 := hI
      exact cast_ob (And.intro True.intro (And.intro (l13_three a (by omega)) (And.intro (l13_known a (by omega)) (And.intro (rfl : true = true) (And.intro (rfl : (l13_tight_in_mk a 0 a b (Sum.inl (0 : Int))) = (l13_tight_in_mk a 0 a b (Sum.inl (0 : Int)))) (And.intro (l13_tight_in a 0 a b (by omega) (Sum.inl (0 : Int)) (show (0 : Int) = (0 : Int) from rfl)) (fun y (hJ : l13_tight_in_J a 0 a b y) => have hJ : y = y := hJ; And.intro (rfl : true = true) (And.intro (rfl : true = true) ((nx_next (Sum.inr (Sum.inl u)) (show u = u from rfl) (show 9 - 1 < 9 - 0 by omega) : NX (l13_tight_out_mk a b) (l13_tight_out_I a b) (l13_tight_out_mu a b) (l13_tight_out_ex a b) (l13_tight_out_J a b) (Sum.inl u) .normal (l13_tight_out_mk a b (Sum.inr (Sum.inl u))))))))))))) (by kernel_rfl)
    · skip
      have hI : u = u := hI
      have h1 := hI
      exact cast_ob (And.intro True.intro (And.intro (l13_three b (by omega)) (And.intro (l13_known b (by omega)) (And.intro (rfl : true = true) (And.intro (rfl : (l13_tight_in_mk b 1 a b (Sum.inl (0 : Int))) = (l13_tight_in_mk b 1 a b (Sum.inl (0 : Int)))) (And.intro (l13_tight_in b 1 a b (by omega) (Sum.inl (0 : Int)) (show (0 : Int) = (0 : Int) from rfl)) (fun y (hJ : l13_tight_in_J b 1 a b y) => have hJ : y = y := hJ; And.intro (rfl : true = true) (And.intro (rfl : true = true) ((nx_next (Sum.inr (Sum.inr u)) (show u = u from rfl) (show 9 - 2 < 9 - 1 by omega) : NX (l13_tight_out_mk a b) (l13_tight_out_I a b) (l13_tight_out_mu a b) (l13_tight_out_ex a b) (l13_tight_out_J a b) (Sum.inr (Sum.inl u)) .normal (l13_tight_out_mk a b (Sum.inr (Sum.inr u))))))))))))) (by kernel_rfl)
    · skip
      have hI : u = u := hI
      have h1 := hI
      exact cast_ob (And.intro True.intro (And.intro (rfl : true = true) ((nx_exit 0 ((l13_tight_out_ex a b u).2) u (show u = u from rfl) rfl : NX (l13_tight_out_mk a b) (l13_tight_out_I a b) (l13_tight_out_mu a b) (l13_tight_out_ex a b) (l13_tight_out_J a b) (Sum.inr (Sum.inr u)) (.exit 0) ((l13_tight_out_ex a b u).2))))) (by kernel_rfl))


theorem l13_ConstantTight (w : Int) (c0 : (-9223372036854775808 : Int) ≤ w ∧ w ≤ 9223372036854775807) : Impl Tryz.prog Amb 3 [(.int .i64 w)] (.bool true) := by
  exact impl_ob hP hAmb Tryz.func3 (by kernel_rfl) (.lit <| .call (.bool true) <| .lits 3 <| .call (.int .i64 (w % 300)) <| .lit <| .call (.int .i64 (w % 6)) <| .loop ⟨[15, 16, 17], 1, []⟩ ((l13_tight_out_mk (w % 300) (w % 6) (Sum.inl (0 : Int)))) (Int) (l13_tight_out_ex (w % 300) (w % 6)) (l13_tight_out_J (w % 300) (w % 6)) (fun y => .lit <| .ret))
    (cast_ob (And.intro True.intro (And.intro (l13_awake ) (And.intro (mill_Mod w 300 (by omega) (by omega)) (have f4 := Int.emod_lt_of_pos w (show (0 : Int) < 300 by omega); have f3 := Int.emod_nonneg w (show (300 : Int) ≠ 0 by omega); And.intro (mill_Mod w 6 (by omega) (by omega)) (have f2 := Int.emod_lt_of_pos w (show (0 : Int) < 6 by omega); have f1 := Int.emod_nonneg w (show (6 : Int) ≠ 0 by omega); And.intro (rfl : true = true) (And.intro (rfl : (l13_tight_out_mk (w % 300) (w % 6) (Sum.inl (0 : Int))) = (l13_tight_out_mk (w % 300) (w % 6) (Sum.inl (0 : Int)))) (And.intro (l13_tight_out (w % 300) (w % 6) (by omega) (by omega) (Sum.inl (0 : Int)) (show (0 : Int) = (0 : Int) from rfl)) (fun y (hJ : l13_tight_out_J (w % 300) (w % 6) y) => have hJ : y = y := hJ; (vsub_refl _ : vsub (.bool true) (.bool true)))))))))) (by kernel_rfl))

end Go.Proofs.YtcijnloneigfcaaGreatDoor
