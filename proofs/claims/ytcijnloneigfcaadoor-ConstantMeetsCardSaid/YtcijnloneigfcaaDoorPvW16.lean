/-
  ConstantMeets, printed by w16.py. Conditions: as the theorems say.
-/
import Derived.Test.YtcijnloneigfcaaDoorPvW14
set_option linter.unusedVariables false
set_option linter.unusedSimpArgs false
namespace Go.Proofs.YtcijnloneigfcaaDoor
open Go.RowKit
set_option maxRecDepth 100000

def atP (lo hi w P : Int) : Bool := decide (lo * 2 ^ (-w - -430).toNat ≤ P) && decide (P ≤ hi * 2 ^ (-w - -430).toNat) && decide (lo.natAbs < 2 ^ 640) && decide (hi.natAbs < 2 ^ 640)
theorem L_640' {x : Int} (h : x.natAbs < 2 ^ 640) : L x.natAbs ≤ 20 := L_pow2 h (by decide)
theorem atP_spec {lo hi w P : Int} (h : atP lo hi w P = true) : lo * 2 ^ (-w - -430).toNat ≤ P ∧ P ≤ hi * 2 ^ (-w - -430).toNat ∧ L lo.natAbs ≤ 20 ∧ L hi.natAbs ≤ 20 := by
  unfold atP at h
  simp only [Bool.and_eq_true, decide_eq_true_eq] at h
  obtain ⟨⟨⟨a, b⟩, c⟩, d⟩ := h
  exact ⟨a, b, L_640' c, L_640' d⟩
theorem all_int' {p : Nat → Bool} {n : Nat} (h : (List.range n).all p = true) {k : Int} (hk : 0 ≤ k ∧ k < n) : p k.toNat = true :=
  List.all_eq_true.1 h k.toNat (List.mem_range.2 (by omega))
theorem not_of' {b : Bool} (h : b = true) : (!b) = false := by rw [h]; rfl
theorem cmp_lo {m e q f P Q : Int} (E1 : mkE m e = 0) (E4 : mkE q f = 0) (se : -430 ≤ e) (sf : -430 ≤ f) (k1 : m * 2 ^ (e - -430).toNat ≤ P) (pq : P ≤ Q) (k2 : Q ≤ q * 2 ^ (f - -430).toNat) : cmpD (mkM m e) (mkX m e) (mkM q f) (mkX q f) ≤ 0 := by
  rw [cmpD_mk E1 E4, cmpD_at m e q f se sf]
  have := cmpI_range (m * 2 ^ (e - -430).toNat) (q * 2 ^ (f - -430).toNat)
  omega
theorem cmp_hi {m e q f P : Int} (E1 : mkE m e = 0) (E4 : mkE q f = 0) (se : -430 ≤ e) (sf : -430 ≤ f) (k1 : P ≤ m * 2 ^ (e - -430).toNat) (k2 : q * 2 ^ (f - -430).toNat ≤ P) : 0 ≤ cmpD (mkM m e) (mkX m e) (mkM q f) (mkX q f) := by
  rw [cmpD_mk E1 E4, cmpD_at m e q f se sf]
  have := cmpI_range (m * 2 ^ (e - -430).toNat) (q * 2 ^ (f - -430).toNat)
  omega
theorem ivc_le {m e n f p g q h : Int} (l : cmpD m e q h ≤ 0) : ivCmp m e n f p g q h ≤ 0 := by
  unfold ivCmp
  by_cases k : cmpD n f p g < 0
  · rw [if_pos k]; omega
  · rw [if_neg k, if_neg (by omega)]; omega
theorem iv_meet {a b v c d w P : Int} (hv : 0 ≤ v ∧ v < 400) (hw : 0 ≤ w ∧ w < 400) (h1 : atP a b v P = true) (h2 : atP c d w P = true) :
    iNe (ivCmp (mkM a (-v)) (mkX a (-v)) (mkM b (-v)) (mkX b (-v)) (mkM c (-w)) (mkX c (-w)) (mkM d (-w)) (mkX d (-w))) 0 = false := by
  obtain ⟨a1, a2, a3, a4⟩ := atP_spec h1
  obtain ⟨b1, b2, b3, b4⟩ := atP_spec h2
  rw [← ivc_3 (cmp_hi (mk_fine2 (by omega) (by omega)) (mk_fine2 (by omega) (by omega)) (by omega) (by omega) a2 b1) (cmp_lo (mk_fine2 (by omega) (by omega)) (mk_fine2 (by omega) (by omega)) (by omega) (by omega) a1 (Int.le_refl _) b2)]
  rfl
theorem iv_ord {a b v c d w P Q : Int} (hv : 0 ≤ v ∧ v < 400) (hw : 0 ≤ w ∧ w < 400) (h1 : atP a b v P = true) (h2 : atP c d w Q = true) (pq : P ≤ Q) :
    iLe (ivCmp (mkM a (-v)) (mkX a (-v)) (mkM b (-v)) (mkX b (-v)) (mkM c (-w)) (mkX c (-w)) (mkM d (-w)) (mkX d (-w))) 0 = true := by
  obtain ⟨a1, a2, a3, a4⟩ := atP_spec h1
  obtain ⟨b1, b2, b3, b4⟩ := atP_spec h2
  exact decide_eq_true (ivc_le (cmp_lo (mk_fine2 (by omega) (by omega)) (mk_fine2 (by omega) (by omega)) (by omega) (by omega) a1 pq b2))

def pt_pi : Int := 8710598741881011095307514925528767253835697869117002946683736815061430642517439960281687965396170617911066893946226934353316672095
theorem cpall_pi : (List.range 400).all (fun n => let w : Int := n; atP (piLo (w + 24) / 2 ^ 24) (-(-(piHi (w + 24)) / 2 ^ 24)) w 8710598741881011095307514925528767253835697869117002946683736815061430642517439960281687965396170617911066893946226934353316672095) = true := by kernel_rfl
theorem cp_pi {w : Int} (hw : 0 ≤ w ∧ w < 400) : atP (piLo (w + 24) / 2 ^ 24) (-(-(piHi (w + 24)) / 2 ^ 24)) w pt_pi = true := by
  have h := all_int' cpall_pi hw
  simp only [Int.toNat_of_nonneg hw.1] at h
  exact h

def pt_e : Int := 7536897645847710281658400746411203897022699015640208818735815763089643812155578169777067305208053024815465040202349145265063243460
theorem cpall_e : (List.range 400).all (fun n => let w : Int := n; atP (eLo (w + 24) / 2 ^ 24) (-(-(eHi (w + 24)) / 2 ^ 24)) w 7536897645847710281658400746411203897022699015640208818735815763089643812155578169777067305208053024815465040202349145265063243460) = true := by kernel_rfl
theorem cp_e {w : Int} (hw : 0 ≤ w ∧ w < 400) : atP (eLo (w + 24) / 2 ^ 24) (-(-(eHi (w + 24)) / 2 ^ 24)) w pt_e = true := by
  have h := all_int' cpall_e hw
  simp only [Int.toNat_of_nonneg hw.1] at h
  exact h

def pt_ln : Int := 1921868181103848789005135799070027024580345152612047297481125309024332866685277824573051215291055110282969622901371337173642342478
theorem cpall_ln : (List.range 400).all (fun n => let w : Int := n; atP (lnLo (w + 24) / 2 ^ 24) (-(-(lnHi (w + 24)) / 2 ^ 24)) w 1921868181103848789005135799070027024580345152612047297481125309024332866685277824573051215291055110282969622901371337173642342478) = true := by kernel_rfl
theorem cp_ln {w : Int} (hw : 0 ≤ w ∧ w < 400) : atP (lnLo (w + 24) / 2 ^ 24) (-(-(lnHi (w + 24)) / 2 ^ 24)) w pt_ln = true := by
  have h := all_int' cpall_ln hw
  simp only [Int.toNat_of_nonneg hw.1] at h
  exact h

theorem pt_1 : pt_e ≤ pt_pi := of_decide_eq_true (by kernel_rfl)
theorem pt_2 : pt_ln ≤ pt_e := of_decide_eq_true (by kernel_rfl)
theorem pt_3 : pt_ln ≤ pt_pi := of_decide_eq_true (by kernel_rfl)

def l13_meets_0_mk (a b : Int) (x : (Int) ⊕ ((Int) ⊕ ((Int) ⊕ (Int)))) : St := Sum.elim (fun (x : Int) => ⟨mkS 95 [(5, (.own 0 0)), (6, (.own 1 0)), (7, (.own 2 0)), (8, (.own 3 0)), (9, (.own 4 0)), (10, (.own 5 0)), (33, (.val (.int .i64 0)))], [⟨true, false, [(V.bool (decide ((piA a) < 0))), (N ((piA a).natAbs)), (V.int .i64 (piB a)), (V.bool (decide ((piC a) < 0))), (N ((piC a).natAbs)), (V.int .i64 (piD a)), (V.bool (decide ((eA a) < 0))), (N ((eA a).natAbs)), (V.int .i64 (eB a)), (V.bool (decide ((eC a) < 0))), (N ((eC a).natAbs)), (V.int .i64 (eD a)), (V.bool (decide ((lnA a) < 0))), (N ((lnA a).natAbs)), (V.int .i64 (lnB a)), (V.bool (decide ((lnC a) < 0))), (N ((lnC a).natAbs)), (V.int .i64 (lnD a))]⟩, ⟨true, false, [(V.int .i64 0), (V.int .i64 0), (V.int .i64 0)]⟩, ⟨true, false, [(V.bool (decide ((piA b) < 0))), (N ((piA b).natAbs)), (V.int .i64 (piB b)), (V.bool (decide ((piC b) < 0))), (N ((piC b).natAbs)), (V.int .i64 (piD b)), (V.bool (decide ((eA b) < 0))), (N ((eA b).natAbs)), (V.int .i64 (eB b)), (V.bool (decide ((eC b) < 0))), (N ((eC b).natAbs)), (V.int .i64 (eD b)), (V.bool (decide ((lnA b) < 0))), (N ((lnA b).natAbs)), (V.int .i64 (lnB b)), (V.bool (decide ((lnC b) < 0))), (N ((lnC b).natAbs)), (V.int .i64 (lnD b))]⟩, ⟨true, false, [(V.int .i64 0), (V.int .i64 0), (V.int .i64 0)]⟩, ⟨true, false, [(V.bool (decide ((piA a) < 0))), (N ((piA a).natAbs)), (V.int .i64 (piB a)), (V.bool (decide ((piC a) < 0))), (N ((piC a).natAbs)), (V.int .i64 (piD a)), (V.bool (decide ((eA a) < 0))), (N ((eA a).natAbs)), (V.int .i64 (eB a)), (V.bool (decide ((eC a) < 0))), (N ((eC a).natAbs)), (V.int .i64 (eD a)), (V.bool (decide ((lnA a) < 0))), (N ((lnA a).natAbs)), (V.int .i64 (lnB a)), (V.bool (decide ((lnC a) < 0))), (N ((lnC a).natAbs)), (V.int .i64 (lnD a))]⟩, ⟨true, false, [(V.int .i64 0), (V.int .i64 0), (V.int .i64 0)]⟩]⟩) (fun (x : (Int) ⊕ ((Int) ⊕ (Int))) => Sum.elim (fun (x : Int) => ⟨mkS 95 [(5, (.own 0 0)), (6, (.own 1 0)), (7, (.own 2 0)), (8, (.own 3 0)), (9, (.own 4 0)), (10, (.own 5 0)), (33, (.val (.int .i64 1)))], [⟨true, false, [(V.bool (decide ((piA a) < 0))), (N ((piA a).natAbs)), (V.int .i64 (piB a)), (V.bool (decide ((piC a) < 0))), (N ((piC a).natAbs)), (V.int .i64 (piD a)), (V.bool (decide ((eA a) < 0))), (N ((eA a).natAbs)), (V.int .i64 (eB a)), (V.bool (decide ((eC a) < 0))), (N ((eC a).natAbs)), (V.int .i64 (eD a)), (V.bool (decide ((lnA a) < 0))), (N ((lnA a).natAbs)), (V.int .i64 (lnB a)), (V.bool (decide ((lnC a) < 0))), (N ((lnC a).natAbs)), (V.int .i64 (lnD a))]⟩, ⟨true, false, [(V.int .i64 0), (V.int .i64 0), (V.int .i64 0)]⟩, ⟨true, false, [(V.bool (decide ((piA b) < 0))), (N ((piA b).natAbs)), (V.int .i64 (piB b)), (V.bool (decide ((piC b) < 0))), (N ((piC b).natAbs)), (V.int .i64 (piD b)), (V.bool (decide ((eA b) < 0))), (N ((eA b).natAbs)), (V.int .i64 (eB b)), (V.bool (decide ((eC b) < 0))), (N ((eC b).natAbs)), (V.int .i64 (eD b)), (V.bool (decide ((lnA b) < 0))), (N ((lnA b).natAbs)), (V.int .i64 (lnB b)), (V.bool (decide ((lnC b) < 0))), (N ((lnC b).natAbs)), (V.int .i64 (lnD b))]⟩, ⟨true, false, [(V.int .i64 0), (V.int .i64 0), (V.int .i64 0)]⟩, ⟨true, false, [(V.bool (decide ((piA a) < 0))), (N ((piA a).natAbs)), (V.int .i64 (piB a)), (V.bool (decide ((piC a) < 0))), (N ((piC a).natAbs)), (V.int .i64 (piD a)), (V.bool (decide ((eA a) < 0))), (N ((eA a).natAbs)), (V.int .i64 (eB a)), (V.bool (decide ((eC a) < 0))), (N ((eC a).natAbs)), (V.int .i64 (eD a)), (V.bool (decide ((lnA a) < 0))), (N ((lnA a).natAbs)), (V.int .i64 (lnB a)), (V.bool (decide ((lnC a) < 0))), (N ((lnC a).natAbs)), (V.int .i64 (lnD a))]⟩, ⟨true, false, [(V.int .i64 0), (V.int .i64 0), (V.int .i64 0)]⟩]⟩) (fun (x : (Int) ⊕ (Int)) => Sum.elim (fun (x : Int) => ⟨mkS 95 [(5, (.own 0 0)), (6, (.own 1 0)), (7, (.own 2 0)), (8, (.own 3 0)), (9, (.own 4 0)), (10, (.own 5 0)), (33, (.val (.int .i64 2)))], [⟨true, false, [(V.bool (decide ((piA a) < 0))), (N ((piA a).natAbs)), (V.int .i64 (piB a)), (V.bool (decide ((piC a) < 0))), (N ((piC a).natAbs)), (V.int .i64 (piD a)), (V.bool (decide ((eA a) < 0))), (N ((eA a).natAbs)), (V.int .i64 (eB a)), (V.bool (decide ((eC a) < 0))), (N ((eC a).natAbs)), (V.int .i64 (eD a)), (V.bool (decide ((lnA a) < 0))), (N ((lnA a).natAbs)), (V.int .i64 (lnB a)), (V.bool (decide ((lnC a) < 0))), (N ((lnC a).natAbs)), (V.int .i64 (lnD a))]⟩, ⟨true, false, [(V.int .i64 0), (V.int .i64 0), (V.int .i64 0)]⟩, ⟨true, false, [(V.bool (decide ((piA b) < 0))), (N ((piA b).natAbs)), (V.int .i64 (piB b)), (V.bool (decide ((piC b) < 0))), (N ((piC b).natAbs)), (V.int .i64 (piD b)), (V.bool (decide ((eA b) < 0))), (N ((eA b).natAbs)), (V.int .i64 (eB b)), (V.bool (decide ((eC b) < 0))), (N ((eC b).natAbs)), (V.int .i64 (eD b)), (V.bool (decide ((lnA b) < 0))), (N ((lnA b).natAbs)), (V.int .i64 (lnB b)), (V.bool (decide ((lnC b) < 0))), (N ((lnC b).natAbs)), (V.int .i64 (lnD b))]⟩, ⟨true, false, [(V.int .i64 0), (V.int .i64 0), (V.int .i64 0)]⟩, ⟨true, false, [(V.bool (decide ((piA a) < 0))), (N ((piA a).natAbs)), (V.int .i64 (piB a)), (V.bool (decide ((piC a) < 0))), (N ((piC a).natAbs)), (V.int .i64 (piD a)), (V.bool (decide ((eA a) < 0))), (N ((eA a).natAbs)), (V.int .i64 (eB a)), (V.bool (decide ((eC a) < 0))), (N ((eC a).natAbs)), (V.int .i64 (eD a)), (V.bool (decide ((lnA a) < 0))), (N ((lnA a).natAbs)), (V.int .i64 (lnB a)), (V.bool (decide ((lnC a) < 0))), (N ((lnC a).natAbs)), (V.int .i64 (lnD a))]⟩, ⟨true, false, [(V.int .i64 0), (V.int .i64 0), (V.int .i64 0)]⟩]⟩) (fun (x : Int) => ⟨mkS 95 [(5, (.own 0 0)), (6, (.own 1 0)), (7, (.own 2 0)), (8, (.own 3 0)), (9, (.own 4 0)), (10, (.own 5 0)), (33, (.val (.int .i64 3)))], [⟨true, false, [(V.bool (decide ((piA a) < 0))), (N ((piA a).natAbs)), (V.int .i64 (piB a)), (V.bool (decide ((piC a) < 0))), (N ((piC a).natAbs)), (V.int .i64 (piD a)), (V.bool (decide ((eA a) < 0))), (N ((eA a).natAbs)), (V.int .i64 (eB a)), (V.bool (decide ((eC a) < 0))), (N ((eC a).natAbs)), (V.int .i64 (eD a)), (V.bool (decide ((lnA a) < 0))), (N ((lnA a).natAbs)), (V.int .i64 (lnB a)), (V.bool (decide ((lnC a) < 0))), (N ((lnC a).natAbs)), (V.int .i64 (lnD a))]⟩, ⟨true, false, [(V.int .i64 0), (V.int .i64 0), (V.int .i64 0)]⟩, ⟨true, false, [(V.bool (decide ((piA b) < 0))), (N ((piA b).natAbs)), (V.int .i64 (piB b)), (V.bool (decide ((piC b) < 0))), (N ((piC b).natAbs)), (V.int .i64 (piD b)), (V.bool (decide ((eA b) < 0))), (N ((eA b).natAbs)), (V.int .i64 (eB b)), (V.bool (decide ((eC b) < 0))), (N ((eC b).natAbs)), (V.int .i64 (eD b)), (V.bool (decide ((lnA b) < 0))), (N ((lnA b).natAbs)), (V.int .i64 (lnB b)), (V.bool (decide ((lnC b) < 0))), (N ((lnC b).natAbs)), (V.int .i64 (lnD b))]⟩, ⟨true, false, [(V.int .i64 0), (V.int .i64 0), (V.int .i64 0)]⟩, ⟨true, false, [(V.bool (decide ((piA a) < 0))), (N ((piA a).natAbs)), (V.int .i64 (piB a)), (V.bool (decide ((piC a) < 0))), (N ((piC a).natAbs)), (V.int .i64 (piD a)), (V.bool (decide ((eA a) < 0))), (N ((eA a).natAbs)), (V.int .i64 (eB a)), (V.bool (decide ((eC a) < 0))), (N ((eC a).natAbs)), (V.int .i64 (eD a)), (V.bool (decide ((lnA a) < 0))), (N ((lnA a).natAbs)), (V.int .i64 (lnB a)), (V.bool (decide ((lnC a) < 0))), (N ((lnC a).natAbs)), (V.int .i64 (lnD a))]⟩, ⟨true, false, [(V.int .i64 0), (V.int .i64 0), (V.int .i64 0)]⟩]⟩) x) x) x
def l13_meets_0_I (a b : Int) (x : (Int) ⊕ ((Int) ⊕ ((Int) ⊕ (Int)))) : Prop := Sum.elim (fun (x : Int) => x = x) (fun (x : (Int) ⊕ ((Int) ⊕ (Int))) => Sum.elim (fun (x : Int) => x = x) (fun (x : (Int) ⊕ (Int)) => Sum.elim (fun (x : Int) => x = x) (fun (x : Int) => x = x) x) x) x
def l13_meets_0_mu (a b : Int) (x : (Int) ⊕ ((Int) ⊕ ((Int) ⊕ (Int)))) : Nat := Sum.elim (fun (x : Int) => 9 - 0) (fun (x : (Int) ⊕ ((Int) ⊕ (Int))) => Sum.elim (fun (x : Int) => 9 - 1) (fun (x : (Int) ⊕ (Int)) => Sum.elim (fun (x : Int) => 9 - 2) (fun (x : Int) => 9 - 3) x) x) x
def l13_meets_0_ex (a b : Int) (y : Int) : Ex × St := (.exit 0, ⟨mkS 95 [(5, (.own 0 0)), (7, (.own 1 0))], [⟨true, false, [(V.bool (decide ((piA a) < 0))), (N ((piA a).natAbs)), (V.int .i64 (piB a)), (V.bool (decide ((piC a) < 0))), (N ((piC a).natAbs)), (V.int .i64 (piD a)), (V.bool (decide ((eA a) < 0))), (N ((eA a).natAbs)), (V.int .i64 (eB a)), (V.bool (decide ((eC a) < 0))), (N ((eC a).natAbs)), (V.int .i64 (eD a)), (V.bool (decide ((lnA a) < 0))), (N ((lnA a).natAbs)), (V.int .i64 (lnB a)), (V.bool (decide ((lnC a) < 0))), (N ((lnC a).natAbs)), (V.int .i64 (lnD a))]⟩, ⟨true, false, [(V.bool (decide ((piA b) < 0))), (N ((piA b).natAbs)), (V.int .i64 (piB b)), (V.bool (decide ((piC b) < 0))), (N ((piC b).natAbs)), (V.int .i64 (piD b)), (V.bool (decide ((eA b) < 0))), (N ((eA b).natAbs)), (V.int .i64 (eB b)), (V.bool (decide ((eC b) < 0))), (N ((eC b).natAbs)), (V.int .i64 (eD b)), (V.bool (decide ((lnA b) < 0))), (N ((lnA b).natAbs)), (V.int .i64 (lnB b)), (V.bool (decide ((lnC b) < 0))), (N ((lnC b).natAbs)), (V.int .i64 (lnD b))]⟩]⟩)
def l13_meets_0_J (a b : Int) (y : Int) : Prop := y = y
theorem l13_meets_0 (a b : Int) (c0 : 0 ≤ a ∧ a < 400)(c1 : 0 ≤ b ∧ b < 400) (x0 : (Int) ⊕ ((Int) ⊕ ((Int) ⊕ (Int)))) (hI : l13_meets_0_I a b x0) : LoopOk Tryd.prog Amb (loopN Tryd.f3 0) (l13_meets_0_mk a b x0) (fun e st_ => ∃ y, l13_meets_0_J a b y ∧ l13_meets_0_ex a b y = (e, st_)) :=
  loop_ob hP hAmb ⟨[5, 6, 7, 8, 9, 10, 33], 6, []⟩ (l13_meets_0_mk a b) (l13_meets_0_I a b) (l13_meets_0_mu a b) (l13_meets_0_ex a b) (l13_meets_0_J a b) x0 hI (Sum.elim (fun u => .lits 33 <| .call (.int .i64 (ivCmp (piA a) (piB a) (piC a) (piD a) (piA b) (piB b) (piC b) (piD b))) <| .lits 3 <| .no <| .lits 11 <| .call (.bool (decide (((piB a) = (piB a) ∧ (piA a) = (piA a)) ∧ ((piD a) = (piD a) ∧ (piC a) = (piC a))))) <| .lits 3 <| .no <| .lit <| .yes <| .fin2 ⟨[5, 6, 7, 8, 9, 10, 33], 6, []⟩) (Sum.elim (fun u => .lits 33 <| .call (.int .i64 (ivCmp (eA a) (eB a) (eC a) (eD a) (eA b) (eB b) (eC b) (eD b))) <| .lits 3 <| .no <| .lits 11 <| .call (.bool (decide (((eB a) = (eB a) ∧ (eA a) = (eA a)) ∧ ((eD a) = (eD a) ∧ (eC a) = (eC a))))) <| .lits 3 <| .no <| .lit <| .yes <| .fin2 ⟨[5, 6, 7, 8, 9, 10, 33], 6, []⟩) (Sum.elim (fun u => .lits 33 <| .call (.int .i64 (ivCmp (lnA a) (lnB a) (lnC a) (lnD a) (lnA b) (lnB b) (lnC b) (lnD b))) <| .lits 3 <| .no <| .lits 11 <| .call (.bool (decide (((lnB a) = (lnB a) ∧ (lnA a) = (lnA a)) ∧ ((lnD a) = (lnD a) ∧ (lnC a) = (lnC a))))) <| .lits 3 <| .no <| .lit <| .yes <| .fin2 ⟨[5, 6, 7, 8, 9, 10, 33], 6, []⟩) (fun u => .lits 2 <| .fin3 ⟨[5, 7], [0, 2]⟩)))) (by
    rintro (u | u | u | u) hI
    · skip
      have hI : u = u := hI
      have h1 := hI
      have z0 : L (0 : Int).natAbs = 0 := L_zero
      have q0pi := atP_spec (cp_pi (w := a) c0)
      have r0pi := pi_facts a
      have q0e := atP_spec (cp_e (w := a) c0)
      have r0e := e_facts a
      have q0ln := atP_spec (cp_ln (w := a) c0)
      have r0ln := ln_facts a
      have q1pi := atP_spec (cp_pi (w := b) c1)
      have r1pi := pi_facts b
      have q1e := atP_spec (cp_e (w := b) c1)
      have r1e := e_facts b
      have q1ln := atP_spec (cp_ln (w := b) c1)
      have r1ln := ln_facts b
      exact cast_ob (And.intro True.intro (And.intro (r10_Cmp (piA a) (piB a) (piC a) (piD a) (piA b) (piB b) (piC b) (piD b) (by omega) (by omega) (by omega) (by omega) (by omega) (by omega) (by omega) (by omega)) (And.intro (iv_meet c0 c1 (cp_pi c0) (cp_pi c1) : (iNe (ivCmp (piA a) (piB a) (piC a) (piD a) (piA b) (piB b) (piC b) (piD b)) 0) = false) (And.intro (r10_Same (piA a) (piB a) (piC a) (piD a) (piA a) (piB a) (piC a) (piD a) (by omega) (by omega) (by omega) (by omega)) (And.intro ((by simp) : (!(decide (((piB a) = (piB a) ∧ (piA a) = (piA a)) ∧ ((piD a) = (piD a) ∧ (piC a) = (piC a))))) = false) (And.intro (rfl : true = true) (And.intro (rfl : true = true) ((nx_next (Sum.inr (Sum.inl u)) (show u = u from rfl) (show 9 - 1 < 9 - 0 by omega) : NX (l13_meets_0_mk a b) (l13_meets_0_I a b) (l13_meets_0_mu a b) (l13_meets_0_ex a b) (l13_meets_0_J a b) (Sum.inl u) .normal (l13_meets_0_mk a b (Sum.inr (Sum.inl u)))))))))))) (by kernel_rfl)
    · skip
      have hI : u = u := hI
      have h1 := hI
      have z0 : L (0 : Int).natAbs = 0 := L_zero
      have q0pi := atP_spec (cp_pi (w := a) c0)
      have r0pi := pi_facts a
      have q0e := atP_spec (cp_e (w := a) c0)
      have r0e := e_facts a
      have q0ln := atP_spec (cp_ln (w := a) c0)
      have r0ln := ln_facts a
      have q1pi := atP_spec (cp_pi (w := b) c1)
      have r1pi := pi_facts b
      have q1e := atP_spec (cp_e (w := b) c1)
      have r1e := e_facts b
      have q1ln := atP_spec (cp_ln (w := b) c1)
      have r1ln := ln_facts b
      exact cast_ob (And.intro True.intro (And.intro (r10_Cmp (eA a) (eB a) (eC a) (eD a) (eA b) (eB b) (eC b) (eD b) (by omega) (by omega) (by omega) (by omega) (by omega) (by omega) (by omega) (by omega)) (And.intro (iv_meet c0 c1 (cp_e c0) (cp_e c1) : (iNe (ivCmp (eA a) (eB a) (eC a) (eD a) (eA b) (eB b) (eC b) (eD b)) 0) = false) (And.intro (r10_Same (eA a) (eB a) (eC a) (eD a) (eA a) (eB a) (eC a) (eD a) (by omega) (by omega) (by omega) (by omega)) (And.intro ((by simp) : (!(decide (((eB a) = (eB a) ∧ (eA a) = (eA a)) ∧ ((eD a) = (eD a) ∧ (eC a) = (eC a))))) = false) (And.intro (rfl : true = true) (And.intro (rfl : true = true) ((nx_next (Sum.inr (Sum.inr (Sum.inl u))) (show u = u from rfl) (show 9 - 2 < 9 - 1 by omega) : NX (l13_meets_0_mk a b) (l13_meets_0_I a b) (l13_meets_0_mu a b) (l13_meets_0_ex a b) (l13_meets_0_J a b) (Sum.inr (Sum.inl u)) .normal (l13_meets_0_mk a b (Sum.inr (Sum.inr (Sum.inl u))))))))))))) (by kernel_rfl)
    · skip
      have hI : u = u := hI
      have h1 := hI
      have z0 : L (0 : Int).natAbs = 0 := L_zero
      have q0pi := atP_spec (cp_pi (w := a) c0)
      have r0pi := pi_facts a
      have q0e := atP_spec (cp_e (w := a) c0)
      have r0e := e_facts a
      have q0ln := atP_spec (cp_ln (w := a) c0)
      have r0ln := ln_facts a
      have q1pi := atP_spec (cp_pi (w := b) c1)
      have r1pi := pi_facts b
      have q1e := atP_spec (cp_e (w := b) c1)
      have r1e := e_facts b
      have q1ln := atP_spec (cp_ln (w := b) c1)
      have r1ln := ln_facts b
      exact cast_ob (And.intro True.intro (And.intro (r10_Cmp (lnA a) (lnB a) (lnC a) (lnD a) (lnA b) (lnB b) (lnC b) (lnD b) (by omega) (by omega) (by omega) (by omega) (by omega) (by omega) (by omega) (by omega)) (And.intro (iv_meet c0 c1 (cp_ln c0) (cp_ln c1) : (iNe (ivCmp (lnA a) (lnB a) (lnC a) (lnD a) (lnA b) (lnB b) (lnC b) (lnD b)) 0) = false) (And.intro (r10_Same (lnA a) (lnB a) (lnC a) (lnD a) (lnA a) (lnB a) (lnC a) (lnD a) (by omega) (by omega) (by omega) (by omega)) (And.intro ((by simp) : (!(decide (((lnB a) = (lnB a) ∧ (lnA a) = (lnA a)) ∧ ((lnD a) = (lnD a) ∧ (lnC a) = (lnC a))))) = false) (And.intro (rfl : true = true) (And.intro (rfl : true = true) ((nx_next (Sum.inr (Sum.inr (Sum.inr u))) (show u = u from rfl) (show 9 - 3 < 9 - 2 by omega) : NX (l13_meets_0_mk a b) (l13_meets_0_I a b) (l13_meets_0_mu a b) (l13_meets_0_ex a b) (l13_meets_0_J a b) (Sum.inr (Sum.inr (Sum.inl u))) .normal (l13_meets_0_mk a b (Sum.inr (Sum.inr (Sum.inr u))))))))))))) (by kernel_rfl)
    · skip
      have hI : u = u := hI
      have h1 := hI
      have z0 : L (0 : Int).natAbs = 0 := L_zero
      have q0pi := atP_spec (cp_pi (w := a) c0)
      have r0pi := pi_facts a
      have q0e := atP_spec (cp_e (w := a) c0)
      have r0e := e_facts a
      have q0ln := atP_spec (cp_ln (w := a) c0)
      have r0ln := ln_facts a
      have q1pi := atP_spec (cp_pi (w := b) c1)
      have r1pi := pi_facts b
      have q1e := atP_spec (cp_e (w := b) c1)
      have r1e := e_facts b
      have q1ln := atP_spec (cp_ln (w := b) c1)
      have r1ln := ln_facts b
      exact cast_ob (And.intro True.intro (And.intro (rfl : true = true) ((nx_exit 0 ((l13_meets_0_ex a b u).2) u (show u = u from rfl) rfl : NX (l13_meets_0_mk a b) (l13_meets_0_I a b) (l13_meets_0_mu a b) (l13_meets_0_ex a b) (l13_meets_0_J a b) (Sum.inr (Sum.inr (Sum.inr u))) (.exit 0) ((l13_meets_0_ex a b u).2))))) (by kernel_rfl))


theorem l13_ConstantMeets (v : Int) (w : Int) (c0 : (-9223372036854775808 : Int) ≤ v ∧ v ≤ 9223372036854775807) (c1 : (-9223372036854775808 : Int) ≤ w ∧ w ≤ 9223372036854775807) : Impl Tryd.prog Amb 3 [(.int .i64 v), (.int .i64 w)] (.bool true) := by
  have a0 : 0 ≤ v % 400 ∧ v % 400 < 400 := ⟨Int.emod_nonneg v (by omega), Int.emod_lt_of_pos v (by omega)⟩
  have a1 : 0 ≤ w % 400 ∧ w % 400 < 400 := ⟨Int.emod_nonneg w (by omega), Int.emod_lt_of_pos w (by omega)⟩
  have z0 : L (0 : Int).natAbs = 0 := L_zero
  have q0pi := atP_spec (cp_pi (w := (v % 400)) a0)
  have r0pi := pi_facts (v % 400)
  have q0e := atP_spec (cp_e (w := (v % 400)) a0)
  have r0e := e_facts (v % 400)
  have q0ln := atP_spec (cp_ln (w := (v % 400)) a0)
  have r0ln := ln_facts (v % 400)
  have q1pi := atP_spec (cp_pi (w := (w % 400)) a1)
  have r1pi := pi_facts (w % 400)
  have q1e := atP_spec (cp_e (w := (w % 400)) a1)
  have r1e := e_facts (w % 400)
  have q1ln := atP_spec (cp_ln (w := (w % 400)) a1)
  have r1ln := ln_facts (w % 400)
  exact impl_ob hP hAmb Tryd.func3 (by kernel_rfl) (.lit <| .call (.bool true) <| .lits 3 <| .call (.int .i64 (v % 400)) <| .lit <| .call (.int .i64 (w % 400)) <| .lit <| .call (.tup [(.agg [(.bool (decide ((piA (v % 400)) < 0))), (N ((piA (v % 400)).natAbs)), (.int .i64 (piB (v % 400))), (.bool (decide ((piC (v % 400)) < 0))), (N ((piC (v % 400)).natAbs)), (.int .i64 (piD (v % 400))), (.bool (decide ((eA (v % 400)) < 0))), (N ((eA (v % 400)).natAbs)), (.int .i64 (eB (v % 400))), (.bool (decide ((eC (v % 400)) < 0))), (N ((eC (v % 400)).natAbs)), (.int .i64 (eD (v % 400))), (.bool (decide ((lnA (v % 400)) < 0))), (N ((lnA (v % 400)).natAbs)), (.int .i64 (lnB (v % 400))), (.bool (decide ((lnC (v % 400)) < 0))), (N ((lnC (v % 400)).natAbs)), (.int .i64 (lnD (v % 400)))]), (.agg [(.int .i64 0), (.int .i64 0), (.int .i64 0)])]) <| .lits 3 <| .call (.tup [(.agg [(.bool (decide ((piA (w % 400)) < 0))), (N ((piA (w % 400)).natAbs)), (.int .i64 (piB (w % 400))), (.bool (decide ((piC (w % 400)) < 0))), (N ((piC (w % 400)).natAbs)), (.int .i64 (piD (w % 400))), (.bool (decide ((eA (w % 400)) < 0))), (N ((eA (w % 400)).natAbs)), (.int .i64 (eB (w % 400))), (.bool (decide ((eC (w % 400)) < 0))), (N ((eC (w % 400)).natAbs)), (.int .i64 (eD (w % 400))), (.bool (decide ((lnA (w % 400)) < 0))), (N ((lnA (w % 400)).natAbs)), (.int .i64 (lnB (w % 400))), (.bool (decide ((lnC (w % 400)) < 0))), (N ((lnC (w % 400)).natAbs)), (.int .i64 (lnD (w % 400)))]), (.agg [(.int .i64 0), (.int .i64 0), (.int .i64 0)])]) <| .lits 3 <| .call (.tup [(.agg [(.bool (decide ((piA (v % 400)) < 0))), (N ((piA (v % 400)).natAbs)), (.int .i64 (piB (v % 400))), (.bool (decide ((piC (v % 400)) < 0))), (N ((piC (v % 400)).natAbs)), (.int .i64 (piD (v % 400))), (.bool (decide ((eA (v % 400)) < 0))), (N ((eA (v % 400)).natAbs)), (.int .i64 (eB (v % 400))), (.bool (decide ((eC (v % 400)) < 0))), (N ((eC (v % 400)).natAbs)), (.int .i64 (eD (v % 400))), (.bool (decide ((lnA (v % 400)) < 0))), (N ((lnA (v % 400)).natAbs)), (.int .i64 (lnB (v % 400))), (.bool (decide ((lnC (v % 400)) < 0))), (N ((lnC (v % 400)).natAbs)), (.int .i64 (lnD (v % 400)))]), (.agg [(.int .i64 0), (.int .i64 0), (.int .i64 0)])]) <| .lits 2 <| .loop ⟨[5, 6, 7, 8, 9, 10, 33], 6, []⟩ ((l13_meets_0_mk (v % 400) (w % 400) (Sum.inl (0 : Int)))) (Int) (l13_meets_0_ex (v % 400) (w % 400)) (l13_meets_0_J (v % 400) (w % 400)) (fun y => .lits 5 <| .call (.int .i64 (ivCmp (eA (v % 400)) (eB (v % 400)) (eC (v % 400)) (eD (v % 400)) (piA (w % 400)) (piB (w % 400)) (piC (w % 400)) (piD (w % 400)))) <| .lit <| .yes <| .lits 9 <| .call (.int .i64 (ivCmp (lnA (v % 400)) (lnB (v % 400)) (lnC (v % 400)) (lnD (v % 400)) (eA (w % 400)) (eB (w % 400)) (eC (w % 400)) (eD (w % 400)))) <| .lits 3 <| .yes <| .lits 9 <| .call (.int .i64 (ivCmp (lnA (w % 400)) (lnB (w % 400)) (lnC (w % 400)) (lnD (w % 400)) (piA (v % 400)) (piB (v % 400)) (piC (v % 400)) (piD (v % 400)))) <| .lits 4 <| .ret))
    (cast_ob (And.intro True.intro (And.intro (l13_awake ) (And.intro (mill_Mod v 400 (by omega) (by omega)) (have f4 := Int.emod_lt_of_pos v (show (0 : Int) < 400 by omega); have f3 := Int.emod_nonneg v (show (400 : Int) ≠ 0 by omega); And.intro (mill_Mod w 400 (by omega) (by omega)) (have f2 := Int.emod_lt_of_pos w (show (0 : Int) < 400 by omega); have f1 := Int.emod_nonneg w (show (400 : Int) ≠ 0 by omega); And.intro (l13_three (v % 400) (by omega)) (And.intro (l13_three (w % 400) (by omega)) (And.intro (l13_three (v % 400) (by omega)) (And.intro (rfl : true = true) (And.intro (rfl : (l13_meets_0_mk (v % 400) (w % 400) (Sum.inl (0 : Int))) = (l13_meets_0_mk (v % 400) (w % 400) (Sum.inl (0 : Int)))) (And.intro (l13_meets_0 (v % 400) (w % 400) (by omega) (by omega) (Sum.inl (0 : Int)) (show (0 : Int) = (0 : Int) from rfl)) (fun y (hJ : l13_meets_0_J (v % 400) (w % 400) y) => have hJ : y = y := hJ; And.intro (r10_Cmp (eA (v % 400)) (eB (v % 400)) (eC (v % 400)) (eD (v % 400)) (piA (w % 400)) (piB (w % 400)) (piC (w % 400)) (piD (w % 400)) (by omega) (by omega) (by omega) (by omega) (by omega) (by omega) (by omega) (by omega)) (And.intro (iv_ord a0 a1 (cp_e a0) (cp_pi a1) pt_1 : (iLe (ivCmp (eA (v % 400)) (eB (v % 400)) (eC (v % 400)) (eD (v % 400)) (piA (w % 400)) (piB (w % 400)) (piC (w % 400)) (piD (w % 400))) 0) = true) (And.intro (r10_Cmp (lnA (v % 400)) (lnB (v % 400)) (lnC (v % 400)) (lnD (v % 400)) (eA (w % 400)) (eB (w % 400)) (eC (w % 400)) (eD (w % 400)) (by omega) (by omega) (by omega) (by omega) (by omega) (by omega) (by omega) (by omega)) (And.intro (iv_ord a0 a1 (cp_ln a0) (cp_e a1) pt_2 : (iLe (ivCmp (lnA (v % 400)) (lnB (v % 400)) (lnC (v % 400)) (lnD (v % 400)) (eA (w % 400)) (eB (w % 400)) (eC (w % 400)) (eD (w % 400))) 0) = true) (And.intro (r10_Cmp (lnA (w % 400)) (lnB (w % 400)) (lnC (w % 400)) (lnD (w % 400)) (piA (v % 400)) (piB (v % 400)) (piC (v % 400)) (piD (v % 400)) (by omega) (by omega) (by omega) (by omega) (by omega) (by omega) (by omega) (by omega)) ((vsub_of (congrArg V.bool (iv_ord a1 a0 (cp_ln a1) (cp_pi a0) pt_3)) : vsub (.bool (iLe (ivCmp (lnA (w % 400)) (lnB (w % 400)) (lnC (w % 400)) (lnD (w % 400)) (piA (v % 400)) (piB (v % 400)) (piC (v % 400)) (piD (v % 400))) 0)) (.bool true)))))))))))))))))) (by kernel_rfl))

end Go.Proofs.YtcijnloneigfcaaDoor
