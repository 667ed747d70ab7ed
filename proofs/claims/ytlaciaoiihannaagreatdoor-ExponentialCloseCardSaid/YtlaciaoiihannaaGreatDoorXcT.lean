/-
  Lower layers: what functions of the program compute, and plain facts. Conditions: as the theorems say.
-/
import Derived.Test.YtlaciaoiihannaaGreatDoorXcS
set_option linter.unusedVariables false
set_option linter.unusedSimpArgs false
namespace Go.Proofs.YtlaciaoiihannaaGreatDoor
open Go.RowKit
set_option maxRecDepth 100000
set_option maxHeartbeats 2000000
theorem gt_help {m tp : Int} (h : m < 0 ∨ tp ≤ 0) (k : bEq (decide (m < 0)) false = true) : tp ≤ 0 := by
 rcases h with h | h
 ·rw [decide_eq_true h] at k; exact absurd k (by decide)
 ·exact h
theorem shl_tp (tp : Int) (h : tp ≤ 9) : 1 ≤ (2 : Int) ^ tp.toNat ∧ (2 : Int) ^ tp.toNat ≤ 512 := by
 have a := two_pos tp.toNat
 have b := Int.ofNat_le.2 (Nat.pow_le_pow_right (n := 2) oO (show tp.toNat ≤ 9 by omega))
 rw [← pow_cast, ← pow_cast, show (2 : Int) ^ 9 = 512 from rfl] at b
 omega
theorem min_tp (tp : Int) (h : tp ≤ 9) : min tp.toNat (IntKind.bits .i64) = tp.toNat := Nat.min_eq_left (by show tp.toNat ≤ 64; omega)
theorem bEq_nn {m : Int} (h : 0 ≤ m) : bEq (decide (m < 0)) false = true := by rw [decide_eq_false oO]; rfl
def r14_0_mk (_ : Nat) (m ee w hv v ma mb xa xb : Int) (pp1 pp2 _ _ : Nat → Int) (x : Nat × Int) : St := ⟨mkS 103 [(1, (.val (.int .i64 w))), (4, (.own 1 0)), (9, (.val (.int .i64 hv))), (10, (.val (.int .i64 v))), (13, (.own 3 0)), (14, (.own 4 0)), (15, (.own 5 0)), (16, (.val (.int .i64 x.2)))], [⟨true, false, [(V.bool (decide (m < 0))), (N m.natAbs), (V.int .i64 ee)]⟩, ⟨true, false, [(V.bool false), V.nil, (V.int .i64 0), (V.bool false), V.nil, (V.int .i64 0)]⟩, ⟨true, false, [(V.bool (decide (ma < 0))), (N ma.natAbs), (V.int .i64 mb)]⟩, ⟨true, false, [(V.bool (decide (xa < 0))), (N xa.natAbs), (V.bool (decide (xb < 0))), (N xb.natAbs)]⟩, ⟨true, false, [(V.bool (decide ((pp1 x.1) < 0))), (N ((pp1 x.1).natAbs)), (V.bool (decide ((pp2 x.1) < 0))), (N ((pp2 x.1).natAbs))]⟩, ⟨true, false, [(V.bool (decide ((saS pp1 x.1) < 0))), (N ((saS pp1 x.1).natAbs)), (V.bool (decide ((saS pp2 x.1) < 0))), (N ((saS pp2 x.1).natAbs))]⟩]⟩
def r14_0_I (nn : Nat) (_ _ _ _ _ _ _ _ _ : Int) (_ _ _ _ : Nat → Int) (x : Nat × Int) : Prop := x.1 ≤ nn ∧ x.2 = (x.1 : Int) + 1
def r14_0_mu (nn : Nat) (_ _ _ _ _ _ _ _ _ : Int) (_ _ _ _ : Nat → Int) (x : Nat × Int) : Nat := nn - x.1
def r14_0_ex (_ : Nat) (m ee w hv v ma mb xa xb : Int) (pp1 pp2 _ _ : Nat → Int) (y : Nat) : Ex × St := (.exit 0, ⟨mkS 103 [(1, (.val (.int .i64 w))), (4, (.own 1 0)), (9, (.val (.int .i64 hv))), (10, (.val (.int .i64 v))), (15, (.own 5 0))], [⟨true, false, [(V.bool (decide (m < 0))), (N m.natAbs), (V.int .i64 ee)]⟩, ⟨true, false, [(V.bool false), V.nil, (V.int .i64 0), (V.bool false), V.nil, (V.int .i64 0)]⟩, ⟨true, false, [(V.bool (decide (ma < 0))), (N ma.natAbs), (V.int .i64 mb)]⟩, ⟨true, false, [(V.bool (decide (xa < 0))), (N xa.natAbs), (V.bool (decide (xb < 0))), (N xb.natAbs)]⟩, ⟨true, false, [(V.bool (decide ((pp1 y) < 0))), (N ((pp1 y).natAbs)), (V.bool (decide ((pp2 y) < 0))), (N ((pp2 y).natAbs))]⟩, ⟨true, false, [(V.bool (decide ((saS pp1 y) < 0))), (N ((saS pp1 y).natAbs)), (V.bool (decide ((saS pp2 y) < 0))), (N ((saS pp2 y).natAbs))]⟩]⟩)
def r14_0_J (nn : Nat) (_ _ _ _ _ _ _ _ _ : Int) (_ _ _ _ : Nat → Int) (y : Nat) : Prop := y = nn
abbrev r14_0_N (nn : Nat) (m ee w hv v ma mb xa xb : Int) (pp1 pp2 mm1 mm2 : Nat → Int) := NX (r14_0_mk nn m ee w hv v ma mb xa xb pp1 pp2 mm1 mm2) (r14_0_I nn m ee w hv v ma mb xa xb pp1 pp2 mm1 mm2) (r14_0_mu nn m ee w hv v ma mb xa xb pp1 pp2 mm1 mm2) (r14_0_ex nn m ee w hv v ma mb xa xb pp1 pp2 mm1 mm2) (r14_0_J nn m ee w hv v ma mb xa xb pp1 pp2 mm1 mm2)
theorem r14_0 (nn : Nat) (m ee w hv v ma mb xa xb : Int) (pp1 pp2 mm1 mm2 : Nat → Int) (c0 : ∀ j, j ≤ nn → Impl Tryz.prog Amb 79 [(.agg [(.bool (decide ((pp1 j) < 0))), (N ((pp1 j).natAbs)), (.bool (decide ((pp2 j) < 0))), (N ((pp2 j).natAbs))])] (.bool (decide (nn ≤ j))))(c1 : ∀ j, j < nn → Impl Tryz.prog Amb 80 [(.agg [(.bool (decide ((pp1 j) < 0))), (N ((pp1 j).natAbs)), (.bool (decide ((pp2 j) < 0))), (N ((pp2 j).natAbs))]), (.agg [(.bool (decide (xa < 0))), (N xa.natAbs), (.bool (decide (xb < 0))), (N xb.natAbs)]), (.int .i64 v)] (.agg [(.bool (decide ((mm1 j) < 0))), (N ((mm1 j).natAbs)), (.bool (decide ((mm2 j) < 0))), (N ((mm2 j).natAbs))]))(c2 : ∀ (j : Nat) (kk : Int), j < nn → kk = (j : Int) + 1 → Impl Tryz.prog Amb 52 [(.agg [(.bool (decide ((mm1 j) < 0))), (N ((mm1 j).natAbs)), (.bool (decide ((mm2 j) < 0))), (N ((mm2 j).natAbs))]), (.int .i64 kk)] (.agg [(.bool (decide ((pp1 (j + 1)) < 0))), (N ((pp1 (j + 1)).natAbs)), (.bool (decide ((pp2 (j + 1)) < 0))), (N ((pp2 (j + 1)).natAbs))]))(c3 : ∀ j, j < nn → Impl Tryz.prog Amb 57 [(.agg [(.bool (decide ((saS pp1 j) < 0))), (N ((saS pp1 j).natAbs)), (.bool (decide ((saS pp2 j) < 0))), (N ((saS pp2 j).natAbs))]), (.agg [(.bool (decide ((pp1 (j + 1)) < 0))), (N ((pp1 (j + 1)).natAbs)), (.bool (decide ((pp2 (j + 1)) < 0))), (N ((pp2 (j + 1)).natAbs))])] (.agg [(.bool (decide ((saS pp1 (j + 1)) < 0))), (N ((saS pp1 (j + 1)).natAbs)), (.bool (decide ((saS pp2 (j + 1)) < 0))), (N ((saS pp2 (j + 1)).natAbs))]))(c4 : nn ≤ 10000) (x0 : Nat × Int) (hI : r14_0_I nn m ee w hv v ma mb xa xb pp1 pp2 mm1 mm2 x0) : LoopOk Tryz.prog Amb (loopN Tryz.f21 0) (r14_0_mk nn m ee w hv v ma mb xa xb pp1 pp2 mm1 mm2 x0) (fun e st_ => ∃ y, r14_0_J nn m ee w hv v ma mb xa xb pp1 pp2 mm1 mm2 y ∧ r14_0_ex nn m ee w hv v ma mb xa xb pp1 pp2 mm1 mm2 y = (e, st_)) :=
 loop_ob hP hAmb ⟨[1, 4, 9, 10, 13, 14, 15, 16], 6, []⟩ (r14_0_mk nn m ee w hv v ma mb xa xb pp1 pp2 mm1 mm2) (r14_0_I nn m ee w hv v ma mb xa xb pp1 pp2 mm1 mm2) (r14_0_mu nn m ee w hv v ma mb xa xb pp1 pp2 mm1 mm2) (r14_0_ex nn m ee w hv v ma mb xa xb pp1 pp2 mm1 mm2) (r14_0_J nn m ee w hv v ma mb xa xb pp1 pp2 mm1 mm2) x0 hI (fun (j, kk) => .lits 2 <| .call (.bool (decide (nn ≤ j))) <| .lit <| .both (.lits 3 <| .call (.agg [(.bool (decide ((mm1 j) < 0))), (N ((mm1 j).natAbs)), (.bool (decide ((mm2 j) < 0))), (N ((mm2 j).natAbs))]) <| .lit <| .call (.agg [(.bool (decide ((pp1 (j + 1)) < 0))), (N ((pp1 (j + 1)).natAbs)), (.bool (decide ((pp2 (j + 1)) < 0))), (N ((pp2 (j + 1)).natAbs))]) <| .lits 4 <| .call (.agg [(.bool (decide ((saS pp1 (j + 1)) < 0))), (N ((saS pp1 (j + 1)).natAbs)), (.bool (decide ((saS pp2 (j + 1)) < 0))), (N ((saS pp2 (j + 1)).natAbs))]) <| .lits 2 <| .yes <| .fin2 ⟨[1, 4, 9, 10, 13, 14, 15, 16], 6, []⟩) (.fin2 ⟨[1, 4, 9, 10, 15], 6, []⟩)) (by
  rintro ⟨j, kk⟩ hI
  have hI : j ≤ nn ∧ kk = (j : Int) + 1 := hI
  obtain ⟨h1, h2⟩ := hI
  exact cast_ob (aI True.intro (aI (c0 j h1 ) (aI (fun (h101 : (!(decide (nn ≤ j))) = true) => have _gh101 := of_decide_eq_false (notb_t h101); aI (c1 j oO ) (aI (c2 j kk oO h2 ) (aI (c3 j oO ) (aI (fits_i64 oO : (fits .i64 (kk + 1)) = true) (aI tT ((nx_next ((j + 1), (kk + 1)) (show (j + 1) ≤ nn ∧ (kk + 1) = ((j + 1) : Int) + 1 from ⟨by omega, by omega⟩) (show nn - (j + 1) < nn - j by omega) : r14_0_N nn m ee w hv v ma mb xa xb pp1 pp2 mm1 mm2 (j, kk) .normal (r14_0_mk nn m ee w hv v ma mb xa xb pp1 pp2 mm1 mm2 ((j + 1), (kk + 1)))))))))) (fun (h102 : (!(decide (nn ≤ j))) = false) => have _gh102 := of_decide_eq_true (notb_f h102); aI tT ((nx_exit 0 ((r14_0_ex nn m ee w hv v ma mb xa xb pp1 pp2 mm1 mm2 j).2) j (show j = nn from show j = nn by omega) rfl : r14_0_N nn m ee w hv v ma mb xa xb pp1 pp2 mm1 mm2 (j, kk) (.exit 0) ((r14_0_ex nn m ee w hv v ma mb xa xb pp1 pp2 mm1 mm2 j).2))))))) (by kernel_rfl))
def r14_1_mk (m ee w hv v ma mb xa xb q1 q2 : Int) (sq1 sq2 : Nat → Int) (x : Nat × Int) : St := ⟨mkS 103 [(1, (.val (.int .i64 w))), (4, (.own 1 0)), (10, (.val (.int .i64 v))), (15, (.own 5 0)), (90, (.val (.int .i64 hv))), (91, (.val (.int .i64 x.2)))], [⟨true, false, [(V.bool (decide (m < 0))), (N m.natAbs), (V.int .i64 ee)]⟩, ⟨true, false, [(V.bool false), V.nil, (V.int .i64 0), (V.bool false), V.nil, (V.int .i64 0)]⟩, ⟨true, false, [(V.bool (decide (ma < 0))), (N ma.natAbs), (V.int .i64 mb)]⟩, ⟨true, false, [(V.bool (decide (xa < 0))), (N xa.natAbs), (V.bool (decide (xb < 0))), (N xb.natAbs)]⟩, ⟨true, false, [(V.bool (decide (q1 < 0))), (N q1.natAbs), (V.bool (decide (q2 < 0))), (N q2.natAbs)]⟩, ⟨true, false, [(V.bool (decide ((sq1 x.1) < 0))), (N ((sq1 x.1).natAbs)), (V.bool (decide ((sq2 x.1) < 0))), (N ((sq2 x.1).natAbs))]⟩]⟩
def r14_1_I (_ _ _ hv _ _ _ _ _ _ _ : Int) (_ _ : Nat → Int) (x : Nat × Int) : Prop := x.2 = (x.1 : Int) ∧ (x.1 : Int) ≤ hv
def r14_1_mu (_ _ _ hv _ _ _ _ _ _ _ : Int) (_ _ : Nat → Int) (x : Nat × Int) : Nat := (hv - x.1).toNat
def r14_1_ex (m ee w _ v ma mb xa xb q1 q2 : Int) (sq1 sq2 : Nat → Int) (y : Nat) : Ex × St := (.exit 2, ⟨mkS 103 [(1, (.val (.int .i64 w))), (4, (.own 1 0)), (10, (.val (.int .i64 v))), (15, (.own 5 0))], [⟨true, false, [(V.bool (decide (m < 0))), (N m.natAbs), (V.int .i64 ee)]⟩, ⟨true, false, [(V.bool false), V.nil, (V.int .i64 0), (V.bool false), V.nil, (V.int .i64 0)]⟩, ⟨true, false, [(V.bool (decide (ma < 0))), (N ma.natAbs), (V.int .i64 mb)]⟩, ⟨true, false, [(V.bool (decide (xa < 0))), (N xa.natAbs), (V.bool (decide (xb < 0))), (N xb.natAbs)]⟩, ⟨true, false, [(V.bool (decide (q1 < 0))), (N q1.natAbs), (V.bool (decide (q2 < 0))), (N q2.natAbs)]⟩, ⟨true, false, [(V.bool (decide ((sq1 y) < 0))), (N ((sq1 y).natAbs)), (V.bool (decide ((sq2 y) < 0))), (N ((sq2 y).natAbs))]⟩]⟩)
def r14_1_J (_ _ _ hv _ _ _ _ _ _ _ : Int) (_ _ : Nat → Int) (y : Nat) : Prop := (y : Int) = hv
abbrev r14_1_N (m ee w hv v ma mb xa xb q1 q2 : Int) (sq1 sq2 : Nat → Int) := NX (r14_1_mk m ee w hv v ma mb xa xb q1 q2 sq1 sq2) (r14_1_I m ee w hv v ma mb xa xb q1 q2 sq1 sq2) (r14_1_mu m ee w hv v ma mb xa xb q1 q2 sq1 sq2) (r14_1_ex m ee w hv v ma mb xa xb q1 q2 sq1 sq2) (r14_1_J m ee w hv v ma mb xa xb q1 q2 sq1 sq2)
theorem r14_1 (m ee w hv v ma mb xa xb q1 q2 : Int) (sq1 sq2 : Nat → Int) (c0 : ∀ i : Nat, (i : Int) < hv → Impl Tryz.prog Amb 80 [(.agg [(.bool (decide ((sq1 i) < 0))), (N ((sq1 i).natAbs)), (.bool (decide ((sq2 i) < 0))), (N ((sq2 i).natAbs))]), (.agg [(.bool (decide ((sq1 i) < 0))), (N ((sq1 i).natAbs)), (.bool (decide ((sq2 i) < 0))), (N ((sq2 i).natAbs))]), (.int .i64 v)] (.agg [(.bool (decide ((sq1 (i + 1)) < 0))), (N ((sq1 (i + 1)).natAbs)), (.bool (decide ((sq2 (i + 1)) < 0))), (N ((sq2 (i + 1)).natAbs))]))(c1 : 0 ≤ hv ∧ hv ≤ 100) (x0 : Nat × Int) (hI : r14_1_I m ee w hv v ma mb xa xb q1 q2 sq1 sq2 x0) : LoopOk Tryz.prog Amb (loopN Tryz.f21 1) (r14_1_mk m ee w hv v ma mb xa xb q1 q2 sq1 sq2 x0) (fun e st_ => ∃ y, r14_1_J m ee w hv v ma mb xa xb q1 q2 sq1 sq2 y ∧ r14_1_ex m ee w hv v ma mb xa xb q1 q2 sq1 sq2 y = (e, st_)) :=
 loop_ob hP hAmb ⟨[1, 4, 10, 15, 90, 91], 6, []⟩ (r14_1_mk m ee w hv v ma mb xa xb q1 q2 sq1 sq2) (r14_1_I m ee w hv v ma mb xa xb q1 q2 sq1 sq2) (r14_1_mu m ee w hv v ma mb xa xb q1 q2 sq1 sq2) (r14_1_ex m ee w hv v ma mb xa xb q1 q2 sq1 sq2) (r14_1_J m ee w hv v ma mb xa xb q1 q2 sq1 sq2) x0 hI (fun (i, ii) => .lit <| .both (.lits 3 <| .call (.agg [(.bool (decide ((sq1 (i + 1)) < 0))), (N ((sq1 (i + 1)).natAbs)), (.bool (decide ((sq2 (i + 1)) < 0))), (N ((sq2 (i + 1)).natAbs))]) <| .lits 2 <| .yes <| .fin2 ⟨[1, 4, 10, 15, 90, 91], 6, []⟩) (.fin2 ⟨[1, 4, 10, 15], 6, []⟩)) (by
  rintro ⟨i, ii⟩ hI
  have hI : ii = (i : Int) ∧ (i : Int) ≤ hv := hI
  obtain ⟨h1, h2⟩ := hI
  exact cast_ob (aI True.intro (aI (fun (h101 : (iLt ii hv) = true) => have _gh101 := iLt_t h101; aI (c0 i oO ) (aI (fits_i64 oO : (fits .i64 (ii + 1)) = true) (aI tT ((nx_next ((i + 1), (ii + 1)) (show (ii + 1) = ((i + 1) : Int) ∧ ((i + 1) : Int) ≤ hv from ⟨by omega, by omega⟩) (show (hv - ((i + 1 : Nat) : Int)).toNat < (hv - i).toNat by omega) : r14_1_N m ee w hv v ma mb xa xb q1 q2 sq1 sq2 (i, ii) .normal (r14_1_mk m ee w hv v ma mb xa xb q1 q2 sq1 sq2 ((i + 1), (ii + 1)))))))) (fun (h102 : (iLt ii hv) = false) => have _gh102 := iLt_f h102; aI tT ((nx_exit 2 ((r14_1_ex m ee w hv v ma mb xa xb q1 q2 sq1 sq2 i).2) i (show (i : Int) = hv from show (i : Int) = hv by omega) rfl : r14_1_N m ee w hv v ma mb xa xb q1 q2 sq1 sq2 (i, ii) (.exit 2) ((r14_1_ex m ee w hv v ma mb xa xb q1 q2 sq1 sq2 i).2)))))) (by kernel_rfl))
theorem r14_AtN (m : Int) (ee : Int) (w : Int) (u1 : Int) (u2 : Int) (k1 : Int) (tp : Int) (ma : Int) (mb : Int) (xa : Int) (xb : Int) (oa : Int) (ob : Int) (oc : Int) (od : Int) (nn : Nat) (pp1 : Nat → Int) (pp2 : Nat → Int) (mm1 : Nat → Int) (mm2 : Nat → Int) (sq1 : Nat → Int) (sq2 : Nat → Int) (c0 : 0 ≤ w ∧ w ≤ 400) (c1 : 0 ≤ k1) (c2 : -2000 ≤ tp ∧ tp ≤ 12) (c3 : m < 0 ∨ tp ≤ 0) (c4 : Impl Tryz.prog Amb 23 [(.int .i64 (-4000))] (yV u1 u2)) (c5 : Impl Tryz.prog Amb 26 [(yV m ee), (yV u1 u2)] (.int .i64 k1)) (c6 : Impl Tryz.prog Amb 24 [(yV m ee)] (.int .i64 tp)) (c7 : Impl Tryz.prog Amb 36 [(yV m ee), (.int .i64 ((0 : Int) - ((iMax (0 : Int) tp) + 3)))] (.tup [(yV ma mb), (.int .i64 0)])) (c8 : Impl Tryz.prog Amb 54 [(yV ma mb), (.int .i64 ((w + 40) + ((2 : Int) * ((iMax (0 : Int) tp) + 3))))] (.agg [(.bool (decide (xa < 0))), (N xa.natAbs), (.bool (decide (xb < 0))), (N xb.natAbs)])) (c9 : Impl Tryz.prog Amb 78 [(.int .i64 1), (.int .i64 ((w + 40) + ((2 : Int) * ((iMax (0 : Int) tp) + 3))))] (.agg [(.bool (decide ((pp1 0) < 0))), (N ((pp1 0).natAbs)), (.bool (decide ((pp2 0) < 0))), (N ((pp2 0).natAbs))])) (c10 : ∀ j, j ≤ nn → Impl Tryz.prog Amb 79 [(.agg [(.bool (decide ((pp1 j) < 0))), (N ((pp1 j).natAbs)), (.bool (decide ((pp2 j) < 0))), (N ((pp2 j).natAbs))])] (.bool (decide (nn ≤ j)))) (c11 : ∀ j, j < nn → Impl Tryz.prog Amb 80 [(.agg [(.bool (decide ((pp1 j) < 0))), (N ((pp1 j).natAbs)), (.bool (decide ((pp2 j) < 0))), (N ((pp2 j).natAbs))]), (.agg [(.bool (decide (xa < 0))), (N xa.natAbs), (.bool (decide (xb < 0))), (N xb.natAbs)]), (.int .i64 ((w + 40) + ((2 : Int) * ((iMax (0 : Int) tp) + 3))))] (.agg [(.bool (decide ((mm1 j) < 0))), (N ((mm1 j).natAbs)), (.bool (decide ((mm2 j) < 0))), (N ((mm2 j).natAbs))])) (c12 : ∀ (j : Nat) (kk : Int), j < nn → kk = (j : Int) + 1 → Impl Tryz.prog Amb 52 [(.agg [(.bool (decide ((mm1 j) < 0))), (N ((mm1 j).natAbs)), (.bool (decide ((mm2 j) < 0))), (N ((mm2 j).natAbs))]), (.int .i64 kk)] (.agg [(.bool (decide ((pp1 (j + 1)) < 0))), (N ((pp1 (j + 1)).natAbs)), (.bool (decide ((pp2 (j + 1)) < 0))), (N ((pp2 (j + 1)).natAbs))])) (c13 : ∀ j, j < nn → Impl Tryz.prog Amb 57 [(.agg [(.bool (decide ((saS pp1 j) < 0))), (N ((saS pp1 j).natAbs)), (.bool (decide ((saS pp2 j) < 0))), (N ((saS pp2 j).natAbs))]), (.agg [(.bool (decide ((pp1 (j + 1)) < 0))), (N ((pp1 (j + 1)).natAbs)), (.bool (decide ((pp2 (j + 1)) < 0))), (N ((pp2 (j + 1)).natAbs))])] (.agg [(.bool (decide ((saS pp1 (j + 1)) < 0))), (N ((saS pp1 (j + 1)).natAbs)), (.bool (decide ((saS pp2 (j + 1)) < 0))), (N ((saS pp2 (j + 1)).natAbs))])) (c14 : nn ≤ 10000) (c15 : Impl Tryz.prog Amb 81 [(.agg [(.bool (decide ((saS pp1 nn) < 0))), (N ((saS pp1 nn).natAbs)), (.bool (decide ((saS pp2 nn) < 0))), (N ((saS pp2 nn).natAbs))]), (.int .i64 3)] (.agg [(.bool (decide ((sq1 0) < 0))), (N ((sq1 0).natAbs)), (.bool (decide ((sq2 0) < 0))), (N ((sq2 0).natAbs))])) (c16 : ∀ i : Nat, (i : Int) < ((iMax (0 : Int) tp) + 3) → Impl Tryz.prog Amb 80 [(.agg [(.bool (decide ((sq1 i) < 0))), (N ((sq1 i).natAbs)), (.bool (decide ((sq2 i) < 0))), (N ((sq2 i).natAbs))]), (.agg [(.bool (decide ((sq1 i) < 0))), (N ((sq1 i).natAbs)), (.bool (decide ((sq2 i) < 0))), (N ((sq2 i).natAbs))]), (.int .i64 ((w + 40) + ((2 : Int) * ((iMax (0 : Int) tp) + 3))))] (.agg [(.bool (decide ((sq1 (i + 1)) < 0))), (N ((sq1 (i + 1)).natAbs)), (.bool (decide ((sq2 (i + 1)) < 0))), (N ((sq2 (i + 1)).natAbs))])) (c17 : 0 ≤ ((iMax (0 : Int) tp) + 3) ∧ ((iMax (0 : Int) tp) + 3) ≤ 100) (c18 : ∀ i : Nat, (i : Int) = ((iMax (0 : Int) tp) + 3) → Impl Tryz.prog Amb 59 [(.agg [(.bool (decide ((sq1 i) < 0))), (N ((sq1 i).natAbs)), (.bool (decide ((sq2 i) < 0))), (N ((sq2 i).natAbs))]), (.int .i64 ((w + 40) + ((2 : Int) * ((iMax (0 : Int) tp) + 3)))), (.int .i64 (w + 16))] (wV oa ob oc od)) : Impl Tryz.prog Amb 21 [(yV m ee), (.int .i64 w)] (wV oa ob oc od) := by
 have im1 := iMax_range 0 tp
 exact impl_ob hP hAmb Tryz.func21 (by kernel_rfl) (.lits 2 <| .call (yV u1 u2) <| .lit <| .call (.int .i64 k1) <| .lit <| .no <| .lits 2 <| .call (.int .i64 tp) <| .lits 2 <| .yes <| .lit <| .yes <| .lit <| .yes <| .lit <| .yes <| .lits 2 <| .both (.lits 3 <| .call (.int .i64 tp) <| .lits 3 <| .no <| .lits 2 <| .yes <| .lit <| .call (.tup [(yV ma mb), (.int .i64 0)]) <| .lits 3 <| .call (.agg [(.bool (decide (xa < 0))), (N xa.natAbs), (.bool (decide (xb < 0))), (N xb.natAbs)]) <| .lits 2 <| .call (.agg [(.bool (decide ((pp1 0) < 0))), (N ((pp1 0).natAbs)), (.bool (decide ((pp2 0) < 0))), (N ((pp2 0).natAbs))]) <| .lit <| .call (.agg [(.bool (decide ((pp1 0) < 0))), (N ((pp1 0).natAbs)), (.bool (decide ((pp2 0) < 0))), (N ((pp2 0).natAbs))]) <| .lits 2 <| .loop ⟨[1, 4, 9, 10, 13, 14, 15, 16], 6, []⟩ ((r14_0_mk nn m ee w ((iMax (0 : Int) tp) + 3) ((w + 40) + ((2 : Int) * ((iMax (0 : Int) tp) + 3))) ma mb xa xb pp1 pp2 mm1 mm2 (0, 1))) (Nat) (r14_0_ex nn m ee w ((iMax (0 : Int) tp) + 3) ((w + 40) + ((2 : Int) * ((iMax (0 : Int) tp) + 3))) ma mb xa xb pp1 pp2 mm1 mm2) (r14_0_J nn m ee w ((iMax (0 : Int) tp) + 3) ((w + 40) + ((2 : Int) * ((iMax (0 : Int) tp) + 3))) ma mb xa xb pp1 pp2 mm1 mm2) (fun y => .lits 2 <| .call (.agg [(.bool (decide ((sq1 0) < 0))), (N ((sq1 0).natAbs)), (.bool (decide ((sq2 0) < 0))), (N ((sq2 0).natAbs))]) <| .lit <| .loop ⟨[1, 4, 10, 15, 90, 91], 6, []⟩ ((r14_1_mk m ee w ((iMax (0 : Int) tp) + 3) ((w + 40) + ((2 : Int) * ((iMax (0 : Int) tp) + 3))) ma mb xa xb (pp1 y) (pp2 y) sq1 sq2 (0, 0))) (Nat) (r14_1_ex m ee w ((iMax (0 : Int) tp) + 3) ((w + 40) + ((2 : Int) * ((iMax (0 : Int) tp) + 3))) ma mb xa xb (pp1 y) (pp2 y) sq1 sq2) (r14_1_J m ee w ((iMax (0 : Int) tp) + 3) ((w + 40) + ((2 : Int) * ((iMax (0 : Int) tp) + 3))) ma mb xa xb (pp1 y) (pp2 y) sq1 sq2) (fun u => .lits 2 <| .yes <| .lit <| .call (wV oa ob oc od) <| .lits 2 <| .ret))) (.lits 6 <| .yes <| .lit <| .call (.tup [(yV ma mb), (.int .i64 0)]) <| .lits 3 <| .call (.agg [(.bool (decide (xa < 0))), (N xa.natAbs), (.bool (decide (xb < 0))), (N xb.natAbs)]) <| .lits 2 <| .call (.agg [(.bool (decide ((pp1 0) < 0))), (N ((pp1 0).natAbs)), (.bool (decide ((pp2 0) < 0))), (N ((pp2 0).natAbs))]) <| .lit <| .call (.agg [(.bool (decide ((pp1 0) < 0))), (N ((pp1 0).natAbs)), (.bool (decide ((pp2 0) < 0))), (N ((pp2 0).natAbs))]) <| .lits 2 <| .loop ⟨[1, 4, 9, 10, 13, 14, 15, 16], 6, []⟩ ((r14_0_mk nn m ee w ((iMax (0 : Int) tp) + 3) ((w + 40) + ((2 : Int) * ((iMax (0 : Int) tp) + 3))) ma mb xa xb pp1 pp2 mm1 mm2 (0, 1))) (Nat) (r14_0_ex nn m ee w ((iMax (0 : Int) tp) + 3) ((w + 40) + ((2 : Int) * ((iMax (0 : Int) tp) + 3))) ma mb xa xb pp1 pp2 mm1 mm2) (r14_0_J nn m ee w ((iMax (0 : Int) tp) + 3) ((w + 40) + ((2 : Int) * ((iMax (0 : Int) tp) + 3))) ma mb xa xb pp1 pp2 mm1 mm2) (fun y => .lits 2 <| .call (.agg [(.bool (decide ((sq1 0) < 0))), (N ((sq1 0).natAbs)), (.bool (decide ((sq2 0) < 0))), (N ((sq2 0).natAbs))]) <| .lit <| .loop ⟨[1, 4, 10, 15, 90, 91], 6, []⟩ ((r14_1_mk m ee w ((iMax (0 : Int) tp) + 3) ((w + 40) + ((2 : Int) * ((iMax (0 : Int) tp) + 3))) ma mb xa xb (pp1 y) (pp2 y) sq1 sq2 (0, 0))) (Nat) (r14_1_ex m ee w ((iMax (0 : Int) tp) + 3) ((w + 40) + ((2 : Int) * ((iMax (0 : Int) tp) + 3))) ma mb xa xb (pp1 y) (pp2 y) sq1 sq2) (r14_1_J m ee w ((iMax (0 : Int) tp) + 3) ((w + 40) + ((2 : Int) * ((iMax (0 : Int) tp) + 3))) ma mb xa xb (pp1 y) (pp2 y) sq1 sq2) (fun u => .lits 2 <| .yes <| .lit <| .call (wV oa ob oc od) <| .lits 2 <| .ret))))
  (cast_ob (aI True.intro (aI (c4 ) (aI (c5 ) (aI (iLt_mkF oS : (iLt k1 0) = false) (aI (c6 ) (aI (fits_i64 oS : (fits .i64 ((iMax (0 : Int) tp) + 3)) = true) (aI (fits_i64 oS : (fits .i64 (w + 40)) = true) (aI (fits_i64 oS : (fits .i64 ((2 : Int) * ((iMax (0 : Int) tp) + 3))) = true) (aI (fits_i64 oS : (fits .i64 ((w + 40) + ((2 : Int) * ((iMax (0 : Int) tp) + 3)))) = true) (aI (fun (h1 : (bEq (decide (m < 0)) false) = true) => aI (c6 ) (aI (iGt_mkF (gt_help c3 (by assumption)) : (iGt tp 0) = false) (aI (fits_i64 oS : (fits .i64 ((0 : Int) - ((iMax (0 : Int) tp) + 3))) = true) (aI (c7 ) (aI (c8 ) (aI (c9 ) (aI (c9 ) (aI tT (aI (rfl : (r14_0_mk nn m ee w ((iMax (0 : Int) tp) + 3) ((w + 40) + ((2 : Int) * ((iMax (0 : Int) tp) + 3))) ma mb xa xb pp1 pp2 mm1 mm2 (0, 1)) = (r14_0_mk nn m ee w ((iMax (0 : Int) tp) + 3) ((w + 40) + ((2 : Int) * ((iMax (0 : Int) tp) + 3))) ma mb xa xb pp1 pp2 mm1 mm2 (0, 1))) (aI (r14_0 nn m ee w ((iMax (0 : Int) tp) + 3) ((w + 40) + ((2 : Int) * ((iMax (0 : Int) tp) + 3))) ma mb xa xb pp1 pp2 mm1 mm2 c10 c11 c12 c13 c14 (0, 1) (show 0 ≤ nn ∧ 1 = (0 : Int) + 1 from ⟨by omega, by omega⟩)) (fun y (hJ : r14_0_J nn m ee w ((iMax (0 : Int) tp) + 3) ((w + 40) + ((2 : Int) * ((iMax (0 : Int) tp) + 3))) ma mb xa xb pp1 pp2 mm1 mm2 y) => have hJ : y = nn := hJ; have hY := hJ; aI ((hY ▸ c15) ) (aI tT (aI (rfl : (r14_1_mk m ee w ((iMax (0 : Int) tp) + 3) ((w + 40) + ((2 : Int) * ((iMax (0 : Int) tp) + 3))) ma mb xa xb (pp1 y) (pp2 y) sq1 sq2 (0, 0)) = (r14_1_mk m ee w ((iMax (0 : Int) tp) + 3) ((w + 40) + ((2 : Int) * ((iMax (0 : Int) tp) + 3))) ma mb xa xb (pp1 y) (pp2 y) sq1 sq2 (0, 0))) (aI (r14_1 m ee w ((iMax (0 : Int) tp) + 3) ((w + 40) + ((2 : Int) * ((iMax (0 : Int) tp) + 3))) ma mb xa xb (pp1 y) (pp2 y) sq1 sq2 c16 c17 (0, 0) (show 0 = (0 : Int) ∧ (0 : Int) ≤ ((iMax (0 : Int) tp) + 3) from ⟨by omega, by omega⟩)) (fun u (hJ : r14_1_J m ee w ((iMax (0 : Int) tp) + 3) ((w + 40) + ((2 : Int) * ((iMax (0 : Int) tp) + 3))) ma mb xa xb (pp1 y) (pp2 y) sq1 sq2 u) => have hJ : (u : Int) = ((iMax (0 : Int) tp) + 3) := hJ; have hV := hJ; aI (fits_i64 oS : (fits .i64 (w + 16)) = true) (aI ((c18 u hV) ) ((vsub_refl (wV oa ob oc od))))))))))))))))))) (fun (h2 : (bEq (decide (m < 0)) false) = false) => aI (fits_i64 oS : (fits .i64 ((0 : Int) - ((iMax (0 : Int) tp) + 3))) = true) (aI (c7 ) (aI (c8 ) (aI (c9 ) (aI (c9 ) (aI tT (aI (rfl : (r14_0_mk nn m ee w ((iMax (0 : Int) tp) + 3) ((w + 40) + ((2 : Int) * ((iMax (0 : Int) tp) + 3))) ma mb xa xb pp1 pp2 mm1 mm2 (0, 1)) = (r14_0_mk nn m ee w ((iMax (0 : Int) tp) + 3) ((w + 40) + ((2 : Int) * ((iMax (0 : Int) tp) + 3))) ma mb xa xb pp1 pp2 mm1 mm2 (0, 1))) (aI (r14_0 nn m ee w ((iMax (0 : Int) tp) + 3) ((w + 40) + ((2 : Int) * ((iMax (0 : Int) tp) + 3))) ma mb xa xb pp1 pp2 mm1 mm2 c10 c11 c12 c13 c14 (0, 1) (show 0 ≤ nn ∧ 1 = (0 : Int) + 1 from ⟨by omega, by omega⟩)) (fun y (hJ : r14_0_J nn m ee w ((iMax (0 : Int) tp) + 3) ((w + 40) + ((2 : Int) * ((iMax (0 : Int) tp) + 3))) ma mb xa xb pp1 pp2 mm1 mm2 y) => have hJ : y = nn := hJ; have hY := hJ; aI ((hY ▸ c15) ) (aI tT (aI (rfl : (r14_1_mk m ee w ((iMax (0 : Int) tp) + 3) ((w + 40) + ((2 : Int) * ((iMax (0 : Int) tp) + 3))) ma mb xa xb (pp1 y) (pp2 y) sq1 sq2 (0, 0)) = (r14_1_mk m ee w ((iMax (0 : Int) tp) + 3) ((w + 40) + ((2 : Int) * ((iMax (0 : Int) tp) + 3))) ma mb xa xb (pp1 y) (pp2 y) sq1 sq2 (0, 0))) (aI (r14_1 m ee w ((iMax (0 : Int) tp) + 3) ((w + 40) + ((2 : Int) * ((iMax (0 : Int) tp) + 3))) ma mb xa xb (pp1 y) (pp2 y) sq1 sq2 c16 c17 (0, 0) (show 0 = (0 : Int) ∧ (0 : Int) ≤ ((iMax (0 : Int) tp) + 3) from ⟨by omega, by omega⟩)) (fun u (hJ : r14_1_J m ee w ((iMax (0 : Int) tp) + 3) ((w + 40) + ((2 : Int) * ((iMax (0 : Int) tp) + 3))) ma mb xa xb (pp1 y) (pp2 y) sq1 sq2 u) => have hJ : (u : Int) = ((iMax (0 : Int) tp) + 3) := hJ; have hV := hJ; aI (fits_i64 oS : (fits .i64 (w + 16)) = true) (aI ((c18 u hV) ) ((vsub_refl (wV oa ob oc od))))))))))))))))))))))))))) (by kernel_rfl))
theorem r14_AtP (m : Int) (ee : Int) (w : Int) (u1 : Int) (u2 : Int) (k1 : Int) (tp : Int) (ma : Int) (mb : Int) (xa : Int) (xb : Int) (oa : Int) (ob : Int) (oc : Int) (od : Int) (nn : Nat) (pp1 : Nat → Int) (pp2 : Nat → Int) (mm1 : Nat → Int) (mm2 : Nat → Int) (sq1 : Nat → Int) (sq2 : Nat → Int) (c0 : 0 ≤ w ∧ w ≤ 400) (c1 : 0 ≤ k1) (c2 : -2000 ≤ tp ∧ tp ≤ 9) (c3 : 0 ≤ m ∧ 0 < tp) (c4 : Impl Tryz.prog Amb 23 [(.int .i64 (-4000))] (yV u1 u2)) (c5 : Impl Tryz.prog Amb 26 [(yV m ee), (yV u1 u2)] (.int .i64 k1)) (c6 : Impl Tryz.prog Amb 24 [(yV m ee)] (.int .i64 tp)) (c7 : Impl Tryz.prog Amb 36 [(yV m ee), (.int .i64 ((0 : Int) - ((iMax (0 : Int) tp) + 3)))] (.tup [(yV ma mb), (.int .i64 0)])) (c8 : Impl Tryz.prog Amb 54 [(yV ma mb), (.int .i64 (((w + 40) + ((2 : Int) * ((iMax (0 : Int) tp) + 3))) + ((3 : Int) * 2 ^ (min tp.toNat (IntKind.bits .i64)))))] (.agg [(.bool (decide (xa < 0))), (N xa.natAbs), (.bool (decide (xb < 0))), (N xb.natAbs)])) (c9 : Impl Tryz.prog Amb 78 [(.int .i64 1), (.int .i64 (((w + 40) + ((2 : Int) * ((iMax (0 : Int) tp) + 3))) + ((3 : Int) * 2 ^ (min tp.toNat (IntKind.bits .i64)))))] (.agg [(.bool (decide ((pp1 0) < 0))), (N ((pp1 0).natAbs)), (.bool (decide ((pp2 0) < 0))), (N ((pp2 0).natAbs))])) (c10 : ∀ j, j ≤ nn → Impl Tryz.prog Amb 79 [(.agg [(.bool (decide ((pp1 j) < 0))), (N ((pp1 j).natAbs)), (.bool (decide ((pp2 j) < 0))), (N ((pp2 j).natAbs))])] (.bool (decide (nn ≤ j)))) (c11 : ∀ j, j < nn → Impl Tryz.prog Amb 80 [(.agg [(.bool (decide ((pp1 j) < 0))), (N ((pp1 j).natAbs)), (.bool (decide ((pp2 j) < 0))), (N ((pp2 j).natAbs))]), (.agg [(.bool (decide (xa < 0))), (N xa.natAbs), (.bool (decide (xb < 0))), (N xb.natAbs)]), (.int .i64 (((w + 40) + ((2 : Int) * ((iMax (0 : Int) tp) + 3))) + ((3 : Int) * 2 ^ (min tp.toNat (IntKind.bits .i64)))))] (.agg [(.bool (decide ((mm1 j) < 0))), (N ((mm1 j).natAbs)), (.bool (decide ((mm2 j) < 0))), (N ((mm2 j).natAbs))])) (c12 : ∀ (j : Nat) (kk : Int), j < nn → kk = (j : Int) + 1 → Impl Tryz.prog Amb 52 [(.agg [(.bool (decide ((mm1 j) < 0))), (N ((mm1 j).natAbs)), (.bool (decide ((mm2 j) < 0))), (N ((mm2 j).natAbs))]), (.int .i64 kk)] (.agg [(.bool (decide ((pp1 (j + 1)) < 0))), (N ((pp1 (j + 1)).natAbs)), (.bool (decide ((pp2 (j + 1)) < 0))), (N ((pp2 (j + 1)).natAbs))])) (c13 : ∀ j, j < nn → Impl Tryz.prog Amb 57 [(.agg [(.bool (decide ((saS pp1 j) < 0))), (N ((saS pp1 j).natAbs)), (.bool (decide ((saS pp2 j) < 0))), (N ((saS pp2 j).natAbs))]), (.agg [(.bool (decide ((pp1 (j + 1)) < 0))), (N ((pp1 (j + 1)).natAbs)), (.bool (decide ((pp2 (j + 1)) < 0))), (N ((pp2 (j + 1)).natAbs))])] (.agg [(.bool (decide ((saS pp1 (j + 1)) < 0))), (N ((saS pp1 (j + 1)).natAbs)), (.bool (decide ((saS pp2 (j + 1)) < 0))), (N ((saS pp2 (j + 1)).natAbs))])) (c14 : nn ≤ 10000) (c15 : Impl Tryz.prog Amb 81 [(.agg [(.bool (decide ((saS pp1 nn) < 0))), (N ((saS pp1 nn).natAbs)), (.bool (decide ((saS pp2 nn) < 0))), (N ((saS pp2 nn).natAbs))]), (.int .i64 3)] (.agg [(.bool (decide ((sq1 0) < 0))), (N ((sq1 0).natAbs)), (.bool (decide ((sq2 0) < 0))), (N ((sq2 0).natAbs))])) (c16 : ∀ i : Nat, (i : Int) < ((iMax (0 : Int) tp) + 3) → Impl Tryz.prog Amb 80 [(.agg [(.bool (decide ((sq1 i) < 0))), (N ((sq1 i).natAbs)), (.bool (decide ((sq2 i) < 0))), (N ((sq2 i).natAbs))]), (.agg [(.bool (decide ((sq1 i) < 0))), (N ((sq1 i).natAbs)), (.bool (decide ((sq2 i) < 0))), (N ((sq2 i).natAbs))]), (.int .i64 (((w + 40) + ((2 : Int) * ((iMax (0 : Int) tp) + 3))) + ((3 : Int) * 2 ^ (min tp.toNat (IntKind.bits .i64)))))] (.agg [(.bool (decide ((sq1 (i + 1)) < 0))), (N ((sq1 (i + 1)).natAbs)), (.bool (decide ((sq2 (i + 1)) < 0))), (N ((sq2 (i + 1)).natAbs))])) (c17 : 0 ≤ ((iMax (0 : Int) tp) + 3) ∧ ((iMax (0 : Int) tp) + 3) ≤ 100) (c18 : ∀ i : Nat, (i : Int) = ((iMax (0 : Int) tp) + 3) → Impl Tryz.prog Amb 59 [(.agg [(.bool (decide ((sq1 i) < 0))), (N ((sq1 i).natAbs)), (.bool (decide ((sq2 i) < 0))), (N ((sq2 i).natAbs))]), (.int .i64 (((w + 40) + ((2 : Int) * ((iMax (0 : Int) tp) + 3))) + ((3 : Int) * 2 ^ (min tp.toNat (IntKind.bits .i64))))), (.int .i64 (w + 16))] (wV oa ob oc od)) : Impl Tryz.prog Amb 21 [(yV m ee), (.int .i64 w)] (wV oa ob oc od) := by
 have im1 := iMax_range 0 tp
 have sh1 := shl_tp tp c2.2
 rw [← min_tp tp c2.2] at sh1
 have sh2 : (0 : Int) ≤ tp := by omega
 exact impl_ob hP hAmb Tryz.func21 (by kernel_rfl) (.lits 2 <| .call (yV u1 u2) <| .lit <| .call (.int .i64 k1) <| .lit <| .no <| .lits 2 <| .call (.int .i64 tp) <| .lits 2 <| .yes <| .lit <| .yes <| .lit <| .yes <| .lit <| .yes <| .lits 2 <| .yes <| .lits 3 <| .call (.int .i64 tp) <| .lits 3 <| .yes <| .lits 2 <| .call (.int .i64 tp) <| .lit <| .yes <| .yes <| .yes <| .lit <| .yes <| .lits 2 <| .yes <| .lit <| .call (.tup [(yV ma mb), (.int .i64 0)]) <| .lits 3 <| .call (.agg [(.bool (decide (xa < 0))), (N xa.natAbs), (.bool (decide (xb < 0))), (N xb.natAbs)]) <| .lits 2 <| .call (.agg [(.bool (decide ((pp1 0) < 0))), (N ((pp1 0).natAbs)), (.bool (decide ((pp2 0) < 0))), (N ((pp2 0).natAbs))]) <| .lit <| .call (.agg [(.bool (decide ((pp1 0) < 0))), (N ((pp1 0).natAbs)), (.bool (decide ((pp2 0) < 0))), (N ((pp2 0).natAbs))]) <| .lits 2 <| .loop ⟨[1, 4, 9, 10, 13, 14, 15, 16], 6, []⟩ ((r14_0_mk nn m ee w ((iMax (0 : Int) tp) + 3) (((w + 40) + ((2 : Int) * ((iMax (0 : Int) tp) + 3))) + ((3 : Int) * 2 ^ (min tp.toNat (IntKind.bits .i64)))) ma mb xa xb pp1 pp2 mm1 mm2 (0, 1))) (Nat) (r14_0_ex nn m ee w ((iMax (0 : Int) tp) + 3) (((w + 40) + ((2 : Int) * ((iMax (0 : Int) tp) + 3))) + ((3 : Int) * 2 ^ (min tp.toNat (IntKind.bits .i64)))) ma mb xa xb pp1 pp2 mm1 mm2) (r14_0_J nn m ee w ((iMax (0 : Int) tp) + 3) (((w + 40) + ((2 : Int) * ((iMax (0 : Int) tp) + 3))) + ((3 : Int) * 2 ^ (min tp.toNat (IntKind.bits .i64)))) ma mb xa xb pp1 pp2 mm1 mm2) (fun y => .lits 2 <| .call (.agg [(.bool (decide ((sq1 0) < 0))), (N ((sq1 0).natAbs)), (.bool (decide ((sq2 0) < 0))), (N ((sq2 0).natAbs))]) <| .lit <| .loop ⟨[1, 4, 10, 15, 90, 91], 6, []⟩ ((r14_1_mk m ee w ((iMax (0 : Int) tp) + 3) (((w + 40) + ((2 : Int) * ((iMax (0 : Int) tp) + 3))) + ((3 : Int) * 2 ^ (min tp.toNat (IntKind.bits .i64)))) ma mb xa xb (pp1 y) (pp2 y) sq1 sq2 (0, 0))) (Nat) (r14_1_ex m ee w ((iMax (0 : Int) tp) + 3) (((w + 40) + ((2 : Int) * ((iMax (0 : Int) tp) + 3))) + ((3 : Int) * 2 ^ (min tp.toNat (IntKind.bits .i64)))) ma mb xa xb (pp1 y) (pp2 y) sq1 sq2) (r14_1_J m ee w ((iMax (0 : Int) tp) + 3) (((w + 40) + ((2 : Int) * ((iMax (0 : Int) tp) + 3))) + ((3 : Int) * 2 ^ (min tp.toNat (IntKind.bits .i64)))) ma mb xa xb (pp1 y) (pp2 y) sq1 sq2) (fun u => .lits 2 <| .yes <| .lit <| .call (wV oa ob oc od) <| .lits 2 <| .ret)))
  (cast_ob (aI True.intro (aI (c4 ) (aI (c5 ) (aI (iLt_mkF oS : (iLt k1 0) = false) (aI (c6 ) (aI (fits_i64 oS : (fits .i64 ((iMax (0 : Int) tp) + 3)) = true) (aI (fits_i64 oS : (fits .i64 (w + 40)) = true) (aI (fits_i64 oS : (fits .i64 ((2 : Int) * ((iMax (0 : Int) tp) + 3))) = true) (aI (fits_i64 oS : (fits .i64 ((w + 40) + ((2 : Int) * ((iMax (0 : Int) tp) + 3)))) = true) (aI (bEq_nn c3.1 : (bEq (decide (m < 0)) false) = true) (aI (c6 ) (aI (iGt_mk oO : (iGt tp 0) = true) (aI (c6 ) (aI (fits_u64 oS : (fits .u64 tp) = true) (aI (iLe_mk oS : (iLe 0 tp) = true) (aI (fits_i64 oS : (fits .i64 ((3 : Int) * 2 ^ (min tp.toNat (IntKind.bits .i64)))) = true) (aI (fits_i64 oS : (fits .i64 (((w + 40) + ((2 : Int) * ((iMax (0 : Int) tp) + 3))) + ((3 : Int) * 2 ^ (min tp.toNat (IntKind.bits .i64))))) = true) (aI (fits_i64 oS : (fits .i64 ((0 : Int) - ((iMax (0 : Int) tp) + 3))) = true) (aI (c7 ) (aI (c8 ) (aI (c9 ) (aI (c9 ) (aI tT (aI (rfl : (r14_0_mk nn m ee w ((iMax (0 : Int) tp) + 3) (((w + 40) + ((2 : Int) * ((iMax (0 : Int) tp) + 3))) + ((3 : Int) * 2 ^ (min tp.toNat (IntKind.bits .i64)))) ma mb xa xb pp1 pp2 mm1 mm2 (0, 1)) = (r14_0_mk nn m ee w ((iMax (0 : Int) tp) + 3) (((w + 40) + ((2 : Int) * ((iMax (0 : Int) tp) + 3))) + ((3 : Int) * 2 ^ (min tp.toNat (IntKind.bits .i64)))) ma mb xa xb pp1 pp2 mm1 mm2 (0, 1))) (aI (r14_0 nn m ee w ((iMax (0 : Int) tp) + 3) (((w + 40) + ((2 : Int) * ((iMax (0 : Int) tp) + 3))) + ((3 : Int) * 2 ^ (min tp.toNat (IntKind.bits .i64)))) ma mb xa xb pp1 pp2 mm1 mm2 c10 c11 c12 c13 c14 (0, 1) (show 0 ≤ nn ∧ 1 = (0 : Int) + 1 from ⟨by omega, by omega⟩)) (fun y (hJ : r14_0_J nn m ee w ((iMax (0 : Int) tp) + 3) (((w + 40) + ((2 : Int) * ((iMax (0 : Int) tp) + 3))) + ((3 : Int) * 2 ^ (min tp.toNat (IntKind.bits .i64)))) ma mb xa xb pp1 pp2 mm1 mm2 y) => have hJ : y = nn := hJ; have hY := hJ; aI ((hY ▸ c15) ) (aI tT (aI (rfl : (r14_1_mk m ee w ((iMax (0 : Int) tp) + 3) (((w + 40) + ((2 : Int) * ((iMax (0 : Int) tp) + 3))) + ((3 : Int) * 2 ^ (min tp.toNat (IntKind.bits .i64)))) ma mb xa xb (pp1 y) (pp2 y) sq1 sq2 (0, 0)) = (r14_1_mk m ee w ((iMax (0 : Int) tp) + 3) (((w + 40) + ((2 : Int) * ((iMax (0 : Int) tp) + 3))) + ((3 : Int) * 2 ^ (min tp.toNat (IntKind.bits .i64)))) ma mb xa xb (pp1 y) (pp2 y) sq1 sq2 (0, 0))) (aI (r14_1 m ee w ((iMax (0 : Int) tp) + 3) (((w + 40) + ((2 : Int) * ((iMax (0 : Int) tp) + 3))) + ((3 : Int) * 2 ^ (min tp.toNat (IntKind.bits .i64)))) ma mb xa xb (pp1 y) (pp2 y) sq1 sq2 c16 c17 (0, 0) (show 0 = (0 : Int) ∧ (0 : Int) ≤ ((iMax (0 : Int) tp) + 3) from ⟨by omega, by omega⟩)) (fun u (hJ : r14_1_J m ee w ((iMax (0 : Int) tp) + 3) (((w + 40) + ((2 : Int) * ((iMax (0 : Int) tp) + 3))) + ((3 : Int) * 2 ^ (min tp.toNat (IntKind.bits .i64)))) ma mb xa xb (pp1 y) (pp2 y) sq1 sq2 u) => have hJ : (u : Int) = ((iMax (0 : Int) tp) + 3) := hJ; have hV := hJ; aI (fits_i64 oS : (fits .i64 (w + 16)) = true) (aI ((c18 u hV) ) ((vsub_refl (wV oa ob oc od)))))))))))))))))))))))))))))))))) (by kernel_rfl))
end Go.Proofs.YtlaciaoiihannaaGreatDoor

namespace Go.Proofs.YtlaciaoiihannaaGreatDoor
def Lq (f g : Nat → Rat) : Prop := ∀ e : Rat, 0 < e → ∃ N, ∀ K, N ≤ K → f K ≤ g K + e
def Lm (f g : Nat → Rat) : Prop := Lq f g ∧ Lq g f
def Bn (f : Nat → Rat) (B : Rat) : Prop := ∃ N, ∀ K, N ≤ K → -B ≤ f K ∧ f K ≤ B
theorem Lq.refl (f : Nat → Rat) : Lq f f := fun e h => ⟨0, fun K _ => by grind⟩
theorem Lm.refl (f : Nat → Rat) : Lm f f := ⟨Lq.refl f, Lq.refl f⟩
theorem Lm.symm {f g : Nat → Rat} (h : Lm f g) : Lm g f := ⟨h.2, h.1⟩
theorem r8 : (0 : Rat) < 1 / 8 ∧ (0 : Rat) < 1 / 2 ∧ (0 : Rat) < 2⁻¹ := ⟨of_decide_eq_true (by kernel_rfl), of_decide_eq_true (by kernel_rfl), of_decide_eq_true (by kernel_rfl)⟩
theorem half_pos {e : Rat} (h : 0 < e) : 0 < e / 2 := by rw [Rat.div_def]; exact Rat.mul_pos h r8.2.2
theorem half_two (e : Rat) : e / 2 + e / 2 = e := by rw [Rat.div_def]; grind
theorem Lq.trans {f g h : Nat → Rat} (a : Lq f g) (b : Lq g h) : Lq f h := fun e he => by
 obtain ⟨N, p⟩ := a (e / 2) (half_pos he)
 obtain ⟨M, q⟩ := b (e / 2) (half_pos he)
 refine ⟨N + M, fun K hK => ?_⟩
 have x := p K (by omega)
 have y := q K (by omega)
 have z := half_two e
 grind
theorem Lm.trans {f g h : Nat → Rat} (a : Lm f g) (b : Lm g h) : Lm f h := ⟨a.1.trans b.1, b.2.trans a.2⟩
theorem Lq.of_le {f g : Nat → Rat} {N : Nat} (h : ∀ K, N ≤ K → f K ≤ g K) : Lq f g := fun e he => ⟨N, fun K hK => by have := h K hK; grind⟩
theorem Lm.of_eq {f g : Nat → Rat} {N : Nat} (h : ∀ K, N ≤ K → f K = g K) : Lm f g := ⟨.of_le (N := N) fun K hK => by rw [h K hK]; exact Rat.le_refl, .of_le (N := N) fun K hK => by rw [h K hK]; exact Rat.le_refl⟩
theorem mul_bd {p x P a : Rat} (h1 : -P ≤ p) (h2 : p ≤ P) (h3 : -a ≤ x) (h4 : x ≤ a) : -(P * a) ≤ p * x ∧ p * x ≤ P * a := by
 have m1 := Rat.mul_nonneg (show 0 ≤ P - p by grind) (show 0 ≤ a + x by grind)
 have m2 := Rat.mul_nonneg (show 0 ≤ P + p by grind) (show 0 ≤ a - x by grind)
 have m3 := Rat.mul_nonneg (show 0 ≤ P + p by grind) (show 0 ≤ a + x by grind)
 have m4 := Rat.mul_nonneg (show 0 ≤ P - p by grind) (show 0 ≤ a - x by grind)
 constructor <;> grind
theorem inv_one {B : Rat} (h : 0 < B) : B⁻¹ * B = 1 := Rat.inv_mul_cancel _ (by grind)
theorem Bn.pos {f : Nat → Rat} {B : Rat} (h : Bn f B) : ∃ C, 0 < C ∧ Bn f C := by
 obtain ⟨N, h⟩ := h
 have a := h N (Nat.le_refl _)
 refine ⟨B + 1, by grind, N, fun K hK => ?_⟩
 have b := h K hK
 constructor <;> grind
theorem Lq.mul_aux {f f' g g' : Nat → Rat} {A B : Rat} (h : Lm f f') (k : Lm g g') (hf : Bn f A) (hg : Bn g' B) : Lq (fun K => f K * g K) (fun K => f' K * g' K) := fun e he => by
 obtain ⟨A', A0, N1, b1⟩ := hf.pos
 obtain ⟨B', B0, N2, b2⟩ := hg.pos
 have iA := Rat.inv_pos.2 A0
 have iB := Rat.inv_pos.2 B0
 have eA := inv_one A0
 have eB := inv_one B0
 obtain ⟨N3, c1⟩ := h.1 _ (Rat.mul_pos (half_pos he) iB)
 obtain ⟨N4, c2⟩ := h.2 _ (Rat.mul_pos (half_pos he) iB)
 obtain ⟨N5, c3⟩ := k.1 _ (Rat.mul_pos (half_pos he) iA)
 obtain ⟨N6, c4⟩ := k.2 _ (Rat.mul_pos (half_pos he) iA)
 refine ⟨N1 + N2 + N3 + N4 + N5 + N6, fun K hK => ?_⟩
 have b1 := b1 K (by omega)
 have b2 := b2 K (by omega)
 have c1 := c1 K (by omega)
 have c2 := c2 K (by omega)
 have c3 := c3 K (by omega)
 have c4 := c4 K (by omega)
 have z := half_two e
 have m1 := (mul_bd b1.1 b1.2 (x := g K - g' K) (a := e / 2 * A'⁻¹) (by grind) (by grind)).2
 have m2 := (mul_bd b2.1 b2.2 (x := f K - f' K) (a := e / 2 * B'⁻¹) (by grind) (by grind)).2
 have q1 : A' * (e / 2 * A'⁻¹) = e / 2 := by grind
 have q2 : B' * (e / 2 * B'⁻¹) = e / 2 := by grind
 rw [q1] at m1
 rw [q2] at m2
 show f K * g K ≤ f' K * g' K + e
 grind
theorem Lm.bn {f g : Nat → Rat} {A : Rat} (h : Lm f g) (b : Bn f A) : Bn g (A + 1) := by
 obtain ⟨N, b⟩ := b
 obtain ⟨N1, h1⟩ := h.1 1 (by decide)
 obtain ⟨N2, h2⟩ := h.2 1 (by decide)
 refine ⟨N + N1 + N2, fun K hK => ?_⟩
 have b := b K (by omega)
 have h1 := h1 K (by omega)
 have h2 := h2 K (by omega)
 constructor <;> grind
theorem Lm.mul {f f' g g' : Nat → Rat} {A B : Rat} (h : Lm f f') (k : Lm g g') (hf : Bn f A) (hg : Bn g B) : Lm (fun K => f K * g K) (fun K => f' K * g' K) :=
 ⟨Lq.mul_aux h k hf (k.bn hg), Lq.mul_aux h.symm k.symm (h.bn hf) hg⟩
theorem Sm_bd {f g : Nat → Rat} : ∀ {n : Nat}, (∀ i, i < n → -(g i) ≤ f i ∧ f i ≤ g i) → -(Sm g n) ≤ Sm f n ∧ Sm f n ≤ Sm g n
 | 0, _ => by show -(0 : Rat) ≤ 0 ∧ (0 : Rat) ≤ 0; constructor <;> decide
 | n + 1, h => by
  have a := Sm_bd (n := n) (fun i hi => h i (by omega))
  have b := h n (by omega)
  show -(Sm g n + g n) ≤ Sm f n + f n ∧ Sm f n + f n ≤ Sm g n + g n
  constructor <;> grind
theorem tE_bd {x a : Rat} (h1 : -a ≤ x) (h2 : x ≤ a) : ∀ n, -(tE a n) ≤ tE x n ∧ tE x n ≤ tE a n
 | 0 => by show -(1 : Rat) ≤ 1 ∧ (1 : Rat) ≤ 1; constructor <;> decide
 | n + 1 => by
  have i := tE_bd h1 h2 n
  have m := mul_bd i.1 i.2 h1 h2
  have np := nx_pos n
  have e1 := tE_mul x n
  have e2 := tE_mul a n
  constructor
  ·exact Rat.le_of_mul_le_mul_right (c := (nx n : Rat)) (by grind) np
  ·exact Rat.le_of_mul_le_mul_right (c := (nx n : Rat)) (by grind) np
theorem EP_bd {x a : Rat} (h1 : -a ≤ x) (h2 : x ≤ a) (K : Nat) : -(EP a K) ≤ EP x K ∧ EP x K ≤ EP a K := Sm_bd fun i _ => tE_bd h1 h2 i
theorem EP_gap {x a : Rat} (h1 : -a ≤ x) (h2 : x ≤ a) (K k : Nat) : -(EP a (K + k) - EP a K) ≤ EP x (K + k) - EP x K ∧ EP x (K + k) - EP x K ≤ EP a (K + k) - EP a K := by
 induction k with
 | zero => show -(EP a K - EP a K) ≤ EP x K - EP x K ∧ EP x K - EP x K ≤ EP a K - EP a K; constructor <;> grind
 | succ k ih =>
  have b := tE_bd h1 h2 (K + k)
  have e1 : EP x (K + (k + 1)) = EP x (K + k) + tE x (K + k) := rfl
  have e2 : EP a (K + (k + 1)) = EP a (K + k) + tE a (K + k) := rfl
  rw [e1, e2]
  constructor <;> grind
theorem Sm_cm (c : Rat) (f : Nat → Rat) (n : Nat) : Sm (fun j => c * f j) n = c * Sm f n := by
 rw [Rat.mul_comm, Sm_mul]
 exact Sm_congr fun i _ => Rat.mul_comm _ _
theorem EP_form (x y : Rat) (K : Nat) : EP x K * EP y K - EP (x + y) K = Sm (fun i => tE x i * (EP y K - EP y (K - i))) K := by
 have p : EP x K * EP y K = Sm (fun i => tE x i * EP y K) K := by unfold EP; rw [Sm_mul]
 have q : EP (x + y) K = Sm (fun i => tE x i * EP y (K - i)) K := by
  rw [EP_conv]
  exact Sm_congr fun i _ => Sm_cm _ _ _
 have r : Sm (fun i => tE x i * EP y K) K = Sm (fun i => tE x i * (EP y K - EP y (K - i))) K + Sm (fun i => tE x i * EP y (K - i)) K := by
  rw [← Sm_add]
  exact Sm_congr fun i _ => by grind
 rw [p, q, r]; grind
theorem EP_mul_bd {x y a b : Rat} (h1 : -a ≤ x) (h2 : x ≤ a) (h3 : -b ≤ y) (h4 : y ≤ b) (K : Nat) : -(EP a K * EP b K - EP (a + b) K) ≤ EP x K * EP y K - EP (x + y) K ∧ EP x K * EP y K - EP (x + y) K ≤ EP a K * EP b K - EP (a + b) K := by
 rw [EP_form, EP_form]
 refine Sm_bd fun i hi => ?_
 have g := EP_gap h3 h4 (K - i) i
 rw [show K - i + i = K by omega] at g
 have t := tE_bd h1 h2 i
 exact mul_bd t.1 t.2 g.1 g.2
theorem rat_nat (r : Rat) : ∃ n : Nat, r ≤ (n : Rat) := by
 refine ⟨r.ceil.toNat, ?_⟩
 have a : r ≤ (r.ceil : Rat) := Rat.le_ceil
 have b : ((r.ceil : Int) : Rat) ≤ ((r.ceil.toNat : Int) : Rat) := Rat.intCast_le_intCast.2 (by omega)
 exact Rat.le_trans a b
theorem two_pow_ge : ∀ n : Nat, (n : Rat) ≤ (2 : Rat) ^ n
 | 0 => by rw [Rat.pow_zero]; decide
 | n + 1 => by
  have a := two_pow_ge n
  have b := one_pow_le (q := 2) (by decide) n
  rw [Rat.pow_succ, Rat.natCast_add]
  show (n : Rat) + 1 ≤ _
  grind
theorem tE_dec {a : Rat} (h0 : 0 ≤ a) {m : Nat} (h : 2 * a ≤ (nx m : Rat)) : ∀ j, tE a (m + j) * (2 : Rat) ^ j ≤ tE a m
 | 0 => by rw [Rat.pow_zero, Rat.mul_one]; exact Rat.le_refl
 | j + 1 => by
  have i := tE_dec h0 h j
  have t := tE_half h0 (m := m + j) (Rat.le_trans h (nx_mono (by omega)))
  have p : (0 : Rat) ≤ (2 : Rat) ^ j := by have := one_pow_le (q := 2) (by decide) j; grind
  have m1 := Rat.mul_le_mul_of_nonneg_right t p
  rw [Rat.pow_succ]
  show tE a (m + j + 1) * _ ≤ _
  grind
theorem tE_lim {a : Rat} (h0 : 0 ≤ a) {e : Rat} (he : 0 < e) : ∃ N, ∀ K, N ≤ K → tE a K ≤ e ∧ 2 * a ≤ (nx K : Rat) := by
 obtain ⟨m, hm⟩ := rat_nat (2 * a)
 have hm' : 2 * a ≤ (nx m : Rat) := Rat.le_trans hm (Rat.intCast_le_intCast.2 (show (m : Int) ≤ nx m by unfold nx; omega))
 obtain ⟨j, hj⟩ := rat_nat (tE a m * e⁻¹)
 have ie := inv_one he
 have i0 := Rat.inv_pos.2 he
 refine ⟨m + j, fun K hK => ⟨?_, Rat.le_trans hm' (nx_mono (by omega))⟩⟩
 obtain ⟨i, rfl⟩ : ∃ i, K = m + (j + i) := ⟨K - m - j, by omega⟩
 have d := tE_dec h0 hm' (j + i)
 have g := two_pow_ge (j + i)
 have n1 : (j : Rat) ≤ ((j + i : Nat) : Rat) := by
  rw [Rat.natCast_add]
  have : (0 : Rat) ≤ (i : Rat) := Rat.natCast_nonneg
  grind
 have p : (1 : Rat) ≤ (2 : Rat) ^ (j + i) := one_pow_le (by decide) _
 refine Rat.le_of_mul_le_mul_right (c := (2 : Rat) ^ (j + i)) ?_ (by grind)
 have m1 := Rat.mul_le_mul_of_nonneg_left (show tE a m * e⁻¹ ≤ (2 : Rat) ^ (j + i) by grind) (Rat.le_of_lt he)
 have q : e * (tE a m * e⁻¹) = tE a m := by grind
 rw [q] at m1
 exact Rat.le_trans d m1
theorem EP_cau {a : Rat} (h0 : 0 ≤ a) {e : Rat} (he : 0 < e) : ∃ N, ∀ K, N ≤ K → ∀ M, EP a M ≤ EP a K + e := by
 obtain ⟨N, h⟩ := tE_lim h0 he
 refine ⟨N + 1, fun K hK M => ?_⟩
 obtain ⟨n, rfl⟩ : ∃ n, K = n + 1 := ⟨K - 1, by omega⟩
 have b := h n (by omega)
 have c := EP_tail h0 b.2 M
 grind
theorem EP_bound {a : Rat} (h0 : 0 ≤ a) : ∃ B, 0 < B ∧ ∀ K, EP a K ≤ B := by
 obtain ⟨N, h⟩ := EP_cau h0 (e := 1) (by decide)
 have p := EP_nonneg h0 N
 exact ⟨EP a N + 1, by grind, fun K => h N (Nat.le_refl _) K⟩
theorem abs_ex (x : Rat) : ∃ a, 0 ≤ a ∧ -a ≤ x ∧ x ≤ a := by
 rcases (Rat.le_total : 0 ≤ x ∨ x ≤ 0) with h | h
 ·exact ⟨x, h, by grind, Rat.le_refl⟩
 ·exact ⟨-x, by grind, by grind, by grind⟩
theorem EP_bn (x : Rat) : ∃ B, 0 < B ∧ Bn (EP x) B := by
 obtain ⟨a, a0, a1, a2⟩ := abs_ex x
 obtain ⟨B, B0, hB⟩ := EP_bound a0
 refine ⟨B, B0, 0, fun K _ => ?_⟩
 have b := EP_bd a1 a2 K
 have c := hB K
 constructor <;> grind
theorem EP_add (x y : Rat) : Lm (EP (x + y)) (fun K => EP x K * EP y K) := by
 obtain ⟨a, a0, a1, a2⟩ := abs_ex x
 obtain ⟨b, b0, b1, b2⟩ := abs_ex y
 have key : ∀ e : Rat, 0 < e → ∃ N, ∀ K, N ≤ K → EP (x + y) K ≤ EP x K * EP y K + e ∧ EP x K * EP y K ≤ EP (x + y) K + e := fun e he => by
  obtain ⟨N, h⟩ := EP_cau (Rat.add_nonneg a0 b0) he
  refine ⟨N, fun K hK => ?_⟩
  have c := h K hK (2 * K)
  have d := (EP_mul a0 b0 K).2
  have f := EP_mul_bd a1 a2 b1 b2 K
  constructor <;> grind
 exact ⟨fun e he => by obtain ⟨N, h⟩ := key e he; exact ⟨N, fun K hK => (h K hK).1⟩, fun e he => by obtain ⟨N, h⟩ := key e he; exact ⟨N, fun K hK => (h K hK).2⟩⟩
theorem EP_zero' : ∀ K, 1 ≤ K → EP 0 K = 1
 | 0, h => absurd h (by omega)
 | 1, _ => by show (0 : Rat) + 1 = 1; grind
 | K + 2, _ => by
  have a := EP_zero' (K + 1) (by omega)
  have z : tE 0 (K + 1) = 0 := by
   show tE 0 K * 0 / (nx K : Rat) = 0
   rw [Rat.mul_zero, Rat.div_def, Rat.zero_mul]
  show EP 0 (K + 1) + tE 0 (K + 1) = 1
  rw [a, z, Rat.add_zero]
theorem EP_opp (x : Rat) : Lm (fun K => EP x K * EP (-x) K) (fun _ => 1) := by
 have h := EP_add x (-x)
 rw [show x + -x = 0 by grind] at h
 exact h.symm.trans (Lm.of_eq (N := 1) fun K hK => EP_zero' K hK)
theorem EP_pos (x : Rat) : ∃ p, 0 < p ∧ ∃ N, ∀ K, N ≤ K → p ≤ EP x K := by
 obtain ⟨B, B0, NB, hB⟩ := EP_bn (-(x / 2))
 obtain ⟨N1, h1⟩ := (EP_opp (x / 2)).2 (1 / 2) r8.2.1
 have iB := inv_one B0
 have i0 := Rat.inv_pos.2 B0
 have c := Rat.mul_pos i0 i0
 have h2' := EP_add (x / 2) (x / 2)
 rw [half_two] at h2'
 obtain ⟨N2, h2⟩ := h2'.2 (B⁻¹ * B⁻¹ * (1 / 8)) (Rat.mul_pos c r8.1)
 refine ⟨B⁻¹ * B⁻¹ * (1 / 8), Rat.mul_pos c r8.1, NB + N1 + N2, fun K hK => ?_⟩
 have hB := hB K (by omega)
 have h1 : (1 : Rat) ≤ EP (x / 2) K * EP (-(x / 2)) K + 1 / 2 := h1 K (by omega)
 have h2 : EP (x / 2) K * EP (x / 2) K ≤ EP x K + B⁻¹ * B⁻¹ * (1 / 8) := h2 K (by omega)
 generalize EP (x / 2) K = u at *
 generalize EP (-(x / 2)) K = v at *
 generalize EP x K = z at *
 generalize B⁻¹ = i at *
 -- u v ≥ 1/2, |v| ≤ B: 4 u u B B ≥ 1
 have sq : 0 ≤ (u * v) * (u * v) - 1 / 4 := by
  have m := Rat.mul_le_mul_of_nonneg_left (show 1 / 2 ≤ u * v by grind) (show 0 ≤ u * v by grind)
  grind
 have vv := (mul_bd hB.1 hB.2 hB.1 hB.2).2
 have uu : 0 ≤ u * u := by
  rcases (Rat.le_total : 0 ≤ u ∨ u ≤ 0) with h | h
  ·exact Rat.mul_nonneg h h
  ·have := Rat.mul_nonneg (show 0 ≤ -u by grind) (show 0 ≤ -u by grind); grind
 have m1 := Rat.mul_le_mul_of_nonneg_left vv uu
 have m2 := Rat.mul_le_mul_of_nonneg_left (show 1 / 4 ≤ u * u * (B * B) by grind) (Rat.le_of_lt c)
 have e : i * i * (u * u * (B * B)) = u * u := by
  have : i * i * (u * u * (B * B)) = u * u * ((i * B) * (i * B)) := by grind
  rw [this, iB]; grind
 rw [e] at m2
 grind
theorem EP_mono_lim {x y : Rat} (h : x ≤ y) : Lq (EP x) (EP y) := by
 have a := EP_add x (y - x)
 rw [show x + (y - x) = y by grind] at a
 refine Lq.trans ?_ a.2
 obtain ⟨p, p0, N, hp⟩ := EP_pos x
 refine Lq.of_le (N := N + 1) fun K hK => ?_
 have b := EP_one (x := y - x) (by grind) (show 1 ≤ K by omega)
 have c := hp K (by omega)
 have m := Rat.mul_le_mul_of_nonneg_left b (show 0 ≤ EP x K by grind)
 show EP x K ≤ EP x K * EP (y - x) K
 grind
end Go.Proofs.YtlaciaoiihannaaGreatDoor

namespace Go.Proofs.YtlaciaoiihannaaGreatDoor
theorem pow_nn {a : Rat} (h : 0 ≤ a) : ∀ n : Nat, 0 ≤ a ^ n
 | 0 => by rw [Rat.pow_zero]; decide
 | n + 1 => by rw [Rat.pow_succ]; exact Rat.mul_nonneg (pow_nn h n) h
theorem pow_monox {a b : Rat} (h : 0 ≤ a) (k : a ≤ b) : ∀ n : Nat, a ^ n ≤ b ^ n
 | 0 => by rw [Rat.pow_zero, Rat.pow_zero]; exact Rat.le_refl
 | n + 1 => by
  have i := pow_monox h k n
  have m1 := Rat.mul_le_mul_of_nonneg_right i h
  have m2 := Rat.mul_le_mul_of_nonneg_left k (pow_nn (Rat.le_trans h k) n)
  rw [Rat.pow_succ, Rat.pow_succ]
  exact Rat.le_trans m1 m2
theorem bern_lo {h : Rat} (h0 : 0 ≤ h) (h1 : h ≤ 1) : ∀ n : Nat, 1 - (n : Rat) * h ≤ (1 - h) ^ n
 | 0 => by rw [Rat.pow_zero]; show 1 - (0 : Rat) * h ≤ 1; grind
 | n + 1 => by
  have i := bern_lo h0 h1 n
  have m1 := Rat.mul_le_mul_of_nonneg_right i (show 0 ≤ 1 - h by grind)
  have n0 : (0 : Rat) ≤ (n : Rat) := Rat.natCast_nonneg
  have m2 := Rat.mul_nonneg n0 (Rat.mul_nonneg h0 h0)
  have c : ((n + 1 : Nat) : Rat) = (n : Rat) + 1 := by rw [Rat.natCast_add]; rfl
  rw [Rat.pow_succ, c]
  grind
theorem eps_bd : 0 ≤ eps ∧ 4000 * eps ≤ 1 := ⟨of_decide_eq_true (by kernel_rfl), of_decide_eq_true (by kernel_rfl)⟩
theorem two_half (P : Rat) : ∀ n : Nat, P ^ n = (2 : Rat) ^ n * (P / 2) ^ n
 | 0 => by rw [Rat.pow_zero, Rat.pow_zero, Rat.pow_zero, Rat.mul_one]
 | n + 1 => by
  rw [Rat.pow_succ, Rat.pow_succ, Rat.pow_succ, two_half P n]
  have h := half_two P
  generalize P / 2 = q at *
  subst h
  grind
theorem pow_near {P : Rat} {n : Nat} (h1 : 2 - eps ≤ P) (h2 : P ≤ 2 + eps) (hn : n ≤ 1000) : 1 - (n : Rat) * eps ≤ (P / 2) ^ n ∧ (P / 2) ^ n ≤ 1 + (n : Rat) * eps := by
 have e := eps_bd
 have hq : P / 2 + P / 2 = P := half_two P
 have he : eps / 2 + eps / 2 = eps := half_two eps
 generalize P / 2 = q at *
 generalize eps / 2 = h at *
 have n0 : (0 : Rat) ≤ (n : Rat) := Rat.natCast_nonneg
 have n1 : (n : Rat) ≤ 1000 := Rat.natCast_le_natCast.2 hn
 have m0 := Rat.mul_le_mul_of_nonneg_right n1 e.1
 have m1 := Rat.mul_nonneg n0 e.1
 have b1 := bern_lo (h := h) (by grind) (by grind) n
 have b2 := inv_bern (y := h) (n := n) (by grind) (by
  have : 2 * ((n : Rat) * h) = (n : Rat) * eps := by grind
  rw [this]; grind)
 have c1 := pow_monox (a := 1 - h) (b := q) (by grind) (by grind) n
 have c2 := pow_monox (a := q) (b := 1 + h) (by grind) (by grind) n
 have f : (n : Rat) * eps = (n : Rat) * h + (n : Rat) * h := by rw [← he]; grind
 have f0 : 0 ≤ (n : Rat) * h := Rat.mul_nonneg n0 (by grind)
 constructor
 ·refine Rat.le_trans ?_ (Rat.le_trans b1 c1); grind
 ·refine Rat.le_trans c2 (Rat.le_trans b2 ?_); grind
theorem EP_npow (c : Rat) : ∀ n : Nat, Lm (EP ((n : Rat) * c)) (fun K => EP c K ^ n)
 | 0 => Lm.of_eq (N := 1) fun K hK => by
  rw [Rat.pow_zero, show ((0 : Nat) : Rat) * c = 0 by show (0 : Rat) * c = 0; grind]
  exact EP_zero' K hK
 | n + 1 => by
  have i := EP_npow c n
  have a := EP_add ((n : Rat) * c) c
  rw [show (n : Rat) * c + c = ((n + 1 : Nat) : Rat) * c by rw [Rat.natCast_add]; show _ = ((n : Rat) + 1) * c; grind] at a
  obtain ⟨A, _, hA⟩ := EP_bn ((n : Rat) * c)
  obtain ⟨B, _, hB⟩ := EP_bn c
  refine a.trans ((i.mul (Lm.refl (EP c)) hA hB).trans (Lm.of_eq (N := 0) fun K _ => ?_))
  rw [Rat.pow_succ]
def err (D : Nat) : Rat := (2 : Rat) ^ D * (1048576 * eps)
theorem two_one (n : Nat) : (1 : Rat) ≤ (2 : Rat) ^ n := one_pow_le (by decide) n
theorem two_mono {n m : Nat} (h : n ≤ m) : (2 : Rat) ^ n ≤ (2 : Rat) ^ m := by
 obtain ⟨k, rfl⟩ : ∃ k, m = n + k := ⟨m - n, by omega⟩
 clear h
 induction k with
 | zero => exact Rat.le_refl
 | succ k ih =>
  have a := two_one (n + k)
  rw [← Nat.add_assoc, Rat.pow_succ]
  grind
theorem cLn_bd : 0 ≤ cLn ∧ 69 ≤ 100 * cLn ∧ 100 * cLn ≤ 70 := ⟨of_decide_eq_true (by kernel_rfl), of_decide_eq_true (by kernel_rfl), of_decide_eq_true (by kernel_rfl)⟩
theorem eps_pos : 0 < eps := of_decide_eq_true (by kernel_rfl)
theorem XF_near_pos {d : Rat} {n D : Nat} (hx : 33 ≤ 100 * (d - (n : Rat) * cLn) ∧ 100 * (d - (n : Rat) * cLn) ≤ 106) (hn : n ≤ D) (hD : D ≤ 1000) :
  ∃ N, ∀ K, N ≤ K → EP (d - (n : Rat) * cLn) K * (2 : Rat) ^ n ≤ EP d K + err D ∧ EP d K ≤ EP (d - (n : Rat) * cLn) K * (2 : Rat) ^ n + err D := by
 have a := EP_add (d - (n : Rat) * cLn) ((n : Rat) * cLn)
 rw [show d - (n : Rat) * cLn + (n : Rat) * cLn = d by grind] at a
 generalize hy : d - (n : Rat) * cLn = y at *
 obtain ⟨A, _, hA⟩ := EP_bn y
 obtain ⟨B, _, hB⟩ := EP_bn ((n : Rat) * cLn)
 have b := a.trans ((Lm.refl (EP y)).mul (EP_npow cLn n) hA hB)
 obtain ⟨N1, h1⟩ := b.1 eps eps_pos
 obtain ⟨N2, h2⟩ := b.2 eps eps_pos
 refine ⟨N1 + N2 + 91, fun K hK => ?_⟩
 have h1 : EP d K ≤ EP y K * EP cLn K ^ n + eps := h1 K (by omega)
 have h2 : EP y K * EP cLn K ^ n ≤ EP d K + eps := h2 K (by omega)
 have p9 := pow_near ((EPc (K := K)).1 (by omega)) (EPc (K := K)).2 (n := n) (by omega)
 rw [two_half (EP cLn K) n] at h1 h2
 have u9 := EP_four (x := y) (by grind) (by grind) K
 have u0 := EP_nonneg (x := y) (by grind) K
 have e := eps_bd
 have t1 := two_one n
 have t2 := two_mono hn
 unfold err
 generalize (2 : Rat) ^ D = F at *
 generalize (2 : Rat) ^ n = T at *
 generalize (EP cLn K / 2) ^ n = q at *
 generalize EP y K = u at *
 have n1 : (n : Rat) ≤ 1000 := Rat.natCast_le_natCast.2 (show n ≤ 1000 by omega)
 have ne := Rat.mul_le_mul_of_nonneg_right n1 e.1
 have uT : 0 ≤ u * T := Rat.mul_nonneg u0 (by grind)
 have uT4 : u * T ≤ 4 * F := by
  have m1 := Rat.mul_le_mul_of_nonneg_right u9 (show 0 ≤ T by grind)
  grind
 have m1 := Rat.mul_le_mul_of_nonneg_left (show q - 1 ≤ 1000 * eps by grind) uT
 have m2 := Rat.mul_le_mul_of_nonneg_left (show 1 - q ≤ 1000 * eps by grind) uT
 have m3 := Rat.mul_le_mul_of_nonneg_right uT4 (show 0 ≤ 1000 * eps by grind)
 have m4 := Rat.mul_le_mul_of_nonneg_right (show 1 ≤ F by grind) e.1
 constructor <;> grind
theorem XF_near_neg {d : Rat} {n : Nat} (hx : 33 ≤ 100 * (d + (n : Rat) * cLn) ∧ 100 * (d + (n : Rat) * cLn) ≤ 106) (hn : n ≤ 1000) :
  ∃ N, ∀ K, N ≤ K → EP (d + (n : Rat) * cLn) K * ((2 : Rat) ^ n)⁻¹ ≤ EP d K + err 0 ∧ EP d K ≤ EP (d + (n : Rat) * cLn) K * ((2 : Rat) ^ n)⁻¹ + err 0 := by
 have a := EP_add d ((n : Rat) * cLn)
 have cb := cLn_bd
 have n0 : (0 : Rat) ≤ (n : Rat) := Rat.natCast_nonneg
 have nc := Rat.mul_nonneg n0 cb.1
 have mo := EP_mono_lim (show d ≤ d + (n : Rat) * cLn by grind)
 generalize hy : d + (n : Rat) * cLn = y at *
 obtain ⟨A, _, hA⟩ := EP_bn d
 obtain ⟨B, _, hB⟩ := EP_bn ((n : Rat) * cLn)
 have b := a.trans ((Lm.refl (EP d)).mul (EP_npow cLn n) hA hB)
 obtain ⟨N1, h1⟩ := b.1 eps eps_pos
 obtain ⟨N2, h2⟩ := b.2 eps eps_pos
 obtain ⟨N3, h3⟩ := mo 1 (by decide)
 obtain ⟨p, p0, N4, h4⟩ := EP_pos d
 refine ⟨N1 + N2 + N3 + N4 + 91, fun K hK => ?_⟩
 have h1 : EP y K ≤ EP d K * EP cLn K ^ n + eps := h1 K (by omega)
 have h2 : EP d K * EP cLn K ^ n ≤ EP y K + eps := h2 K (by omega)
 have h3 := h3 K (by omega)
 have h4 := h4 K (by omega)
 have p9 := pow_near ((EPc (K := K)).1 (by omega)) (EPc (K := K)).2 (n := n) (by omega)
 rw [two_half (EP cLn K) n] at h1 h2
 have u9 := EP_four (x := y) (by grind) (by grind) K
 have e := eps_bd
 have t1 := two_one n
 have it := inv_one (B := (2 : Rat) ^ n) (by grind)
 have i0 := Rat.inv_pos.2 (show 0 < (2 : Rat) ^ n by grind)
 unfold err
 rw [Rat.pow_zero]
 generalize (2 : Rat) ^ n = T at *
 generalize T⁻¹ = i at *
 generalize (EP cLn K / 2) ^ n = q at *
 generalize EP y K = v at *
 generalize EP d K = u at *
 have i1 : i ≤ 1 := by
  have := Rat.mul_le_mul_of_nonneg_left t1 (Rat.le_of_lt i0)
  grind
 have n1 : (n : Rat) ≤ 1000 := Rat.natCast_le_natCast.2 hn
 have ne := Rat.mul_le_mul_of_nonneg_right n1 e.1
 have m1 := Rat.mul_le_mul_of_nonneg_left (show q - 1 ≤ 1000 * eps by grind) (show 0 ≤ u by grind)
 have m2 := Rat.mul_le_mul_of_nonneg_left (show 1 - q ≤ 1000 * eps by grind) (show 0 ≤ u by grind)
 have m3 := Rat.mul_le_mul_of_nonneg_right (show u ≤ 5 by grind) (show 0 ≤ 1000 * eps by grind)
 have m4 := Rat.mul_le_mul_of_nonneg_right h1 (Rat.le_of_lt i0)
 have m5 := Rat.mul_le_mul_of_nonneg_right h2 (Rat.le_of_lt i0)
 have m6 := Rat.mul_le_mul_of_nonneg_right i1 e.1
 have r : u * (T * q) * i = u * q := by
  have : u * (T * q) * i = u * q * (i * T) := by grind
  rw [this, it]; grind
 constructor <;> grind
theorem XF_near {d : Rat} {k : Int} {D : Nat} (hx : 33 ≤ 100 * (d - (k : Rat) * cLn) ∧ 100 * (d - (k : Rat) * cLn) ≤ 106) (h1 : -1000 ≤ k) (h2 : k ≤ D) (hD : D ≤ 1000) :
  ∃ N, ∀ K, N ≤ K → EP (d - (k : Rat) * cLn) K * (2 : Rat) ^ k ≤ EP d K + err D ∧ EP d K ≤ EP (d - (k : Rat) * cLn) K * (2 : Rat) ^ k + err D := by
 rcases (show 0 ≤ k ∨ k ≤ 0 by omega) with h | h
 ·obtain ⟨n, rfl⟩ : ∃ n : Nat, k = (n : Int) := ⟨k.toNat, by omega⟩
  rw [Rat.zpow_natCast]
  exact XF_near_pos hx (by omega) hD
 ·obtain ⟨n, rfl⟩ : ∃ n : Nat, k = -(n : Int) := ⟨(-k).toNat, by omega⟩
  have e : d - ((-(n : Int) : Int) : Rat) * cLn = d + (n : Rat) * cLn := by
   rw [Rat.intCast_neg]
   show d - -(n : Rat) * cLn = _
   grind
  rw [e] at hx ⊢
  rw [Rat.zpow_neg, Rat.zpow_natCast]
  obtain ⟨N, h⟩ := XF_near_neg hx (by omega)
  refine ⟨N, fun K hK => ?_⟩
  have z := h K hK
  have w : err 0 ≤ err D := by
   unfold err
   have := two_mono (Nat.zero_le D)
   have e := eps_bd
   exact Rat.mul_le_mul_of_nonneg_right this (by grind)
  constructor <;> grind
end Go.Proofs.YtlaciaoiihannaaGreatDoor

namespace Go.Proofs.YtlaciaoiihannaaGreatDoor
def rE (T y1 y2 : Int) : Nat → Int × Int
 | 0 => (T, T)
 | j + 1 => (ovLo (rm1 (rE T y1 y2 j).1 (rE T y1 y2 j).2 y1 y2 T) (rm2 (rE T y1 y2 j).1 (rE T y1 y2 j).2 y1 y2 T) ((j : Int) + 1), ovHi (rm1 (rE T y1 y2 j).1 (rE T y1 y2 j).2 y1 y2 T) (rm2 (rE T y1 y2 j).1 (rE T y1 y2 j).2 y1 y2 T) ((j : Int) + 1))
theorem rE_enc {T y1 y2 : Int} {x : Rat} (hT : 0 < T) (e1 : (y1 : Rat) ≤ x * T) (e2 : x * T ≤ (y2 : Rat)) : ∀ j, ((rE T y1 y2 j).1 : Rat) ≤ tE x j * T ∧ tE x j * T ≤ ((rE T y1 y2 j).2 : Rat)
 | 0 => by
  show (T : Rat) ≤ 1 * T ∧ 1 * (T : Rat) ≤ T
  rw [Rat.one_mul]; exact ⟨Rat.le_refl, Rat.le_refl⟩
 | j + 1 => by
  have a := rE_enc hT e1 e2 j
  have b := rm_in hT a.1 a.2 e1 e2
  have n0 : (0 : Int) < (j : Int) + 1 := by omega
  have c := ov_in n0 b.1 b.2
  have e : tE x j * x * (T : Rat) / (((j : Int) + 1 : Int) : Rat) = tE x (j + 1) * T := by
   show tE x j * x * (T : Rat) / (nx j : Rat) = tE x j * x / (nx j : Rat) * T
   rw [Rat.div_def, Rat.div_def]; grind
  rw [e] at c
  exact c
theorem ov_abs {a b n : Int} {B : Nat} (hn : 0 < n) (ha : a.natAbs ≤ B) (hb : b.natAbs ≤ B) : (ovLo a b n).natAbs ≤ B ∧ (ovHi a b n).natAbs ≤ B := by
 have key : ∀ z : Int, z.natAbs ≤ B → (Int.fdiv z n).natAbs ≤ B := by
  intro z hz
  rw [Int.fdiv_eq_ediv_of_nonneg _ (Int.le_of_lt hn)]
  have f1 := Int.ediv_mul_le z (show n ≠ 0 by omega)
  have f2 := Int.lt_ediv_add_one_mul_self z hn
  generalize z / n = q at *
  have u : q ≤ B := by
   refine Decidable.byContradiction fun h => ?_
   have m := Int.mul_le_mul_of_nonneg_left (show (1 : Int) ≤ n by omega) (show 0 ≤ q by omega)
   omega
  have l : -(B : Int) ≤ q := by
   refine Decidable.byContradiction fun h => ?_
   have m := Int.mul_le_mul_of_nonneg_left (show (1 : Int) ≤ n by omega) (show 0 ≤ -(q + 1) by omega)
   have e : -(q + 1) * n = -((q + 1) * n) := Int.neg_mul _ _
   omega
  omega
 unfold ovLo ovHi
 have k1 := key (min a b) (by omega)
 have k2 := key (-(max a b)) (by omega)
 omega
theorem rE_abs {v : Nat} {y1 y2 : Int} (h1 : 8 * y1.natAbs ≤ 2 ^ v) (h2 : 8 * y2.natAbs ≤ 2 ^ v) : ∀ j, j ≤ v → (rE (2 ^ v) y1 y2 j).1.natAbs ≤ 2 ^ (v - j) ∧ (rE (2 ^ v) y1 y2 j).2.natAbs ≤ 2 ^ (v - j) := by
 intro j
 induction j with
 | zero =>
  intro _
  show ((2 : Int) ^ v).natAbs ≤ 2 ^ (v - 0) ∧ ((2 : Int) ^ v).natAbs ≤ 2 ^ (v - 0)
  rw [pow_cast, Int.natAbs_natCast]; exact ⟨Nat.le_refl _, Nat.le_refl _⟩
 | succ j ih =>
  intro hj
  have a := ih (by omega)
  have p : 2 ^ (v - j) = 2 * 2 ^ (v - (j + 1)) := by rw [show v - j = (v - (j + 1)) + 1 by omega, Nat.pow_succ, Nat.mul_comm]
  have r := rm_abs (c := y1) (d := y2) (C := 2 ^ (v - (j + 1))) (S := 2 ^ v / 8) (two_pos v) a.1 a.2 (by omega) (by omega) (by
   rw [toNat_two, p]
   have := Nat.mul_le_mul_left (2 ^ (v - (j + 1))) (show 2 * (2 ^ v / 8) ≤ 2 ^ v by omega)
   rw [Nat.mul_comm 2, Nat.mul_assoc]; exact this)
  exact ov_abs (by omega) r.1 r.2
theorem rE_small {v : Nat} {y1 y2 : Int} (h1 : 8 * y1.natAbs ≤ 2 ^ v) (h2 : 8 * y2.natAbs ≤ 2 ^ v) : ∃ N, N ≤ v ∧ ((rE (2 ^ v) y1 y2 N).1.natAbs ≤ 1 ∧ (rE (2 ^ v) y1 y2 N).2.natAbs ≤ 1) ∧ ∀ j, j < N → ¬ ((rE (2 ^ v) y1 y2 j).1.natAbs ≤ 1 ∧ (rE (2 ^ v) y1 y2 j).2.natAbs ≤ 1) := by
 have a := rE_abs h1 h2 v (Nat.le_refl _)
 rw [Nat.sub_self, Nat.pow_zero] at a
 exact least (P := fun j => (rE (2 ^ v) y1 y2 j).1.natAbs ≤ 1 ∧ (rE (2 ^ v) y1 y2 j).2.natAbs ≤ 1) a
end Go.Proofs.YtlaciaoiihannaaGreatDoor

namespace Go.Proofs.YtlaciaoiihannaaGreatDoor
def EnE (f : Nat → Rat) (s : Nat) (lo hi : Int) (g : Rat) : Prop := ∃ N, ∀ K, N ≤ K → (lo : Rat) ≤ f K * ((2 ^ s : Int) : Rat) + g ∧ f K * ((2 ^ s : Int) : Rat) ≤ (hi : Rat) + g
theorem EnE.mono {f : Nat → Rat} {s : Nat} {lo hi : Int} {g g' : Rat} (h : EnE f s lo hi g) (hg : g ≤ g') : EnE f s lo hi g' := by
 obtain ⟨N, h⟩ := h
 exact ⟨N, fun K hK => by have := h K hK; constructor <;> grind⟩
theorem EnE.near {f f' : Nat → Rat} {s : Nat} {lo hi : Int} {g e : Rat} (h : EnE f s lo hi g) (hn : ∃ N, ∀ K, N ≤ K → f K ≤ f' K + e ∧ f' K ≤ f K + e) : EnE f' s lo hi (g + e * ((2 ^ s : Int) : Rat)) := by
 obtain ⟨N, h⟩ := h
 obtain ⟨M, hn⟩ := hn
 have P : (0 : Rat) < ((2 ^ s : Int) : Rat) := Rat.intCast_pos.2 (two_pos s)
 refine ⟨N + M, fun K hK => ?_⟩
 have a := h K (by omega)
 have b := hn K (by omega)
 have m1 := Rat.mul_le_mul_of_nonneg_right b.1 (Rat.le_of_lt P)
 have m2 := Rat.mul_le_mul_of_nonneg_right b.2 (Rat.le_of_lt P)
 constructor <;> grind
theorem Encl.toE {f : Nat → Rat} {s : Nat} {lo hi : Int} (h : Encl f s lo hi) : EnE f s lo hi 0 := by
 obtain ⟨N, h⟩ := h
 exact ⟨N, fun K hK => by have := h K hK; constructor <;> grind⟩
theorem int_gap2 {l h : Int} {X Y : Rat} (h1 : (l : Rat) ≤ X) (h2 : Y ≤ (h : Rat)) (g : X < Y + 1) : l ≤ h := by
 refine Decidable.byContradiction fun hn => ?_
 have : ((h + 1 : Int) : Rat) ≤ (l : Rat) := Rat.intCast_le_intCast.2 (by omega)
 rw [Rat.intCast_add, show ((1 : Int) : Rat) = 1 from rfl] at this
 grind
theorem EnE.le {f f' : Nat → Rat} {s : Nat} {a b c d : Int} {g g' : Rat} (h : EnE f s a b g) (k : EnE f' s c d g') (hl : Lq f f') (hg : g + g' < 1) : a ≤ d := by
 obtain ⟨N, h⟩ := h
 obtain ⟨M, k⟩ := k
 have P : (0 : Rat) < ((2 ^ s : Int) : Rat) := Rat.intCast_pos.2 (two_pos s)
 have i0 := Rat.inv_pos.2 P
 have ie := inv_one P
 have e0 : 0 < (1 - g - g') * (1 / 2) := Rat.mul_pos (by grind) r8.2.1
 obtain ⟨Q, q⟩ := hl ((1 - g - g') * (1 / 2) * (((2 ^ s : Int) : Rat))⁻¹) (Rat.mul_pos e0 i0)
 have h := (h (N + M + Q) (by omega)).1
 have k := (k (N + M + Q) (by omega)).2
 have q := Rat.mul_le_mul_of_nonneg_right (q (N + M + Q) (by omega)) (Rat.le_of_lt P)
 have z : (1 - g - g') * (1 / 2) * (((2 ^ s : Int) : Rat))⁻¹ * ((2 ^ s : Int) : Rat) = (1 - g - g') * (1 / 2) := by rw [Rat.mul_assoc, ie, Rat.mul_one]
 exact int_gap2 (X := f (N + M + Q) * ((2 ^ s : Int) : Rat) + g) (Y := f' (N + M + Q) * ((2 ^ s : Int) : Rat) - g') h (by grind) (by grind)
theorem EnE.scale {f : Nat → Rat} {s n : Nat} {a b : Int} {g : Rat} (h : EnE f s a b g) : EnE f (s + n) (a * 2 ^ n) (b * 2 ^ n) (g * ((2 ^ n : Int) : Rat)) := by
 obtain ⟨N, h⟩ := h
 have P : (0 : Rat) < ((2 ^ n : Int) : Rat) := Rat.intCast_pos.2 (two_pos n)
 refine ⟨N, fun K hK => ?_⟩
 have q := h K hK
 rw [Int.pow_add, Rat.intCast_mul, Rat.intCast_mul, Rat.intCast_mul]
 have m1 := Rat.mul_le_mul_of_nonneg_right q.1 (Rat.le_of_lt P)
 have m2 := Rat.mul_le_mul_of_nonneg_right q.2 (Rat.le_of_lt P)
 constructor <;> grind
theorem EnE.meet {f : Nat → Rat} {s n : Nat} {a b c d : Int} {g g' : Rat} (h : EnE f s a b g) (k : EnE f (s + n) c d g') (hg : g * ((2 ^ n : Int) : Rat) + g' < 1) : a * 2 ^ n ≤ d ∧ c ≤ b * 2 ^ n :=
 ⟨h.scale.le k (Lq.refl f) hg, k.le h.scale (Lq.refl f) (by grind)⟩
theorem EnE.of_lim {f f' : Nat → Rat} {s : Nat} {lo hi : Int} {g : Rat} (h : EnE f s lo hi 0) (hl : Lm f f') (g0 : 0 < g) : EnE f' s lo hi g := by
 have P : (0 : Rat) < ((2 ^ s : Int) : Rat) := Rat.intCast_pos.2 (two_pos s)
 have i0 := Rat.inv_pos.2 P
 have ie := inv_one P
 obtain ⟨N1, h1⟩ := hl.1 (g * (((2 ^ s : Int) : Rat))⁻¹) (Rat.mul_pos g0 i0)
 obtain ⟨N2, h2⟩ := hl.2 (g * (((2 ^ s : Int) : Rat))⁻¹) (Rat.mul_pos g0 i0)
 have r := h.near (f' := f') (e := g * (((2 ^ s : Int) : Rat))⁻¹) ⟨N1 + N2, fun K hK => ⟨h1 K (by omega), h2 K (by omega)⟩⟩
 rw [Rat.mul_assoc, ie, Rat.mul_one] at r
 exact r.mono (by grind)
theorem tE_pm (x : Rat) : ∀ n, tE (-x) n = tE x n ∨ tE (-x) n = -(tE x n)
 | 0 => .inl rfl
 | n + 1 => by
  have e1 : tE (-x) (n + 1) = tE (-x) n * -x / (nx n : Rat) := rfl
  have e2 : tE x (n + 1) = tE x n * x / (nx n : Rat) := rfl
  rcases tE_pm x n with h | h
  ·right; rw [e1, e2, h, Rat.div_def, Rat.div_def]; grind
  ·left; rw [e1, e2, h, Rat.div_def, Rat.div_def]; grind
theorem ab_cases (x : Rat) : ∃ a, (0 ≤ a ∧ -a ≤ x ∧ x ≤ a) ∧ (a = x ∨ a = -x) := by
 rcases (Rat.le_total : 0 ≤ x ∨ x ≤ 0) with h | h
 ·exact ⟨x, ⟨h, by grind, Rat.le_refl⟩, .inl rfl⟩
 ·exact ⟨-x, ⟨by grind, by grind, by grind⟩, .inr rfl⟩
theorem tail_bd {x : Rat} (h1 : -1 ≤ 2 * x) (h2 : 2 * x ≤ 1) {n K : Nat} {t : Rat} (l1 : -t ≤ tE x n) (l2 : tE x n ≤ t) (hK : n + 1 ≤ K) : EP x (n + 1) - t ≤ EP x K ∧ EP x K ≤ EP x (n + 1) + t := by
 obtain ⟨a, ⟨a0, a1, a2⟩, ha⟩ := ab_cases x
 have t1 : tE a n ≤ t := by
  rcases ha with e | e
  ·rw [e]; exact l2
  ·rw [e]
   rcases tE_pm x n with q | q
   ·rw [q]; exact l2
   ·rw [q]; grind
 have u : 2 * a ≤ 1 := by
  rcases ha with e | e
  ·rw [e]; exact h2
  ·rw [e]; grind
 have tl := EP_tail a0 (n := n) (Rat.le_trans u (show (1 : Rat) ≤ (nx n : Rat) from nx_mono (a := 0) (by omega))) K
 have g := EP_gap a1 a2 (n + 1) (K - (n + 1))
 rw [show n + 1 + (K - (n + 1)) = K by omega] at g
 constructor <;> grind
def saR (p : Nat → Int) : Nat → Int
 | 0 => p 0
 | j + 1 => saR p j + p (j + 1)
def reLo (T y1 y2 : Int) (j : Nat) : Int := (rE T y1 y2 j).1
def reHi (T y1 y2 : Int) (j : Nat) : Int := (rE T y1 y2 j).2
theorem rS_enc2 {T y1 y2 : Int} {x : Rat} (hT : 0 < T) (e1 : (y1 : Rat) ≤ x * T) (e2 : x * T ≤ (y2 : Rat)) (n : Nat) : ((saR (reLo T y1 y2) n : Int) : Rat) ≤ EP x (n + 1) * T ∧ EP x (n + 1) * T ≤ ((saR (reHi T y1 y2) n : Int) : Rat) :=
 ⟨sumLow (p := reLo T y1 y2) (s := saR (reLo T y1 y2)) (n := n) rfl (fun _ _ => rfl) (fun j _ => (rE_enc hT e1 e2 j).1) n (Nat.le_refl _), sumHigh (p := reHi T y1 y2) (s := saR (reHi T y1 y2)) (n := n) rfl (fun _ _ => rfl) (fun j _ => (rE_enc hT e1 e2 j).2) n (Nat.le_refl _)⟩
theorem rS_wide {T y1 y2 : Int} {x : Rat} {n : Nat} (hT : 0 < T) (e1 : (y1 : Rat) ≤ x * T) (e2 : x * T ≤ (y2 : Rat)) (x1 : -1 ≤ 2 * x) (x2 : 2 * x ≤ 1) (n1 : (reLo T y1 y2 n).natAbs ≤ 1) (n2 : (reHi T y1 y2 n).natAbs ≤ 1) {K : Nat} (hK : n + 1 ≤ K) :
  ((saR (reLo T y1 y2) n - 3 : Int) : Rat) ≤ EP x K * T ∧ EP x K * T ≤ ((saR (reHi T y1 y2) n + 3 : Int) : Rat) := by
 have s := rS_enc2 hT e1 e2 n
 have T0 : (0 : Rat) < (T : Rat) := Rat.intCast_pos.2 hT
 have l := rE_enc hT e1 e2 n
 have h1 : ((-1 : Int) : Rat) ≤ ((reLo T y1 y2 n : Int) : Rat) := Rat.intCast_le_intCast.2 (by omega)
 have h2 : ((reHi T y1 y2 n : Int) : Rat) ≤ ((1 : Int) : Rat) := Rat.intCast_le_intCast.2 (by omega)
 rw [show ((-1 : Int) : Rat) = -1 from rfl] at h1
 rw [show ((1 : Int) : Rat) = 1 from rfl] at h2
 have l1 : ((reLo T y1 y2 n : Int) : Rat) ≤ tE x n * T := l.1
 have l2 : tE x n * T ≤ ((reHi T y1 y2 n : Int) : Rat) := l.2
 have ie := inv_one T0
 have b1 : -(T : Rat)⁻¹ ≤ tE x n := Rat.le_of_mul_le_mul_right (c := (T : Rat)) (by rw [Rat.neg_mul, ie]; grind) T0
 have b2 : tE x n ≤ (T : Rat)⁻¹ := Rat.le_of_mul_le_mul_right (c := (T : Rat)) (by rw [ie]; grind) T0
 have t := tail_bd x1 x2 b1 b2 hK
 have m1 := Rat.mul_le_mul_of_nonneg_right t.1 (Rat.le_of_lt T0)
 have m2 := Rat.mul_le_mul_of_nonneg_right t.2 (Rat.le_of_lt T0)
 rw [Rat.intCast_sub, Rat.intCast_add, show ((3 : Int) : Rat) = 3 from rfl]
 constructor <;> grind
def rQ (T a b : Int) : Nat → Int × Int
 | 0 => (a, b)
 | i + 1 => (rm1 (rQ T a b i).1 (rQ T a b i).2 (rQ T a b i).1 (rQ T a b i).2 T, rm2 (rQ T a b i).1 (rQ T a b i).2 (rQ T a b i).1 (rQ T a b i).2 T)
def sqn (u : Rat) : Nat → Rat
 | 0 => u
 | i + 1 => sqn u i * sqn u i
theorem rQ_enc {T a b : Int} {u : Rat} (hT : 0 < T) (h1 : (a : Rat) ≤ u * T) (h2 : u * T ≤ (b : Rat)) : ∀ i, (((rQ T a b i).1 : Int) : Rat) ≤ sqn u i * T ∧ sqn u i * T ≤ (((rQ T a b i).2 : Int) : Rat)
 | 0 => ⟨h1, h2⟩
 | i + 1 => by
  have a := rQ_enc hT h1 h2 i
  exact rm_in hT a.1 a.2 a.1 a.2
theorem rQ_abs {a b : Int} {v : Nat} (h1 : a.natAbs ≤ 4 * 2 ^ v) (h2 : b.natAbs ≤ 4 * 2 ^ v) : ∀ i, (rQ (2 ^ v) a b i).1.natAbs ≤ 2 ^ (2 * 2 ^ i + v) ∧ (rQ (2 ^ v) a b i).2.natAbs ≤ 2 ^ (2 * 2 ^ i + v)
 | 0 => by
  have e : 2 ^ (2 * 2 ^ 0 + v) = 4 * 2 ^ v := by rw [Nat.pow_add]
  rw [e]; exact ⟨h1, h2⟩
 | i + 1 => by
  have p := rQ_abs h1 h2 i
  refine rm_abs (C := 2 ^ (2 * 2 ^ (i + 1) + v)) (B := 2 ^ (2 * 2 ^ i + v)) (S := 2 ^ (2 * 2 ^ i + v)) (two_pos v) p.1 p.2 p.1 p.2 ?_
  rw [toNat_two, ← Nat.pow_add, ← Nat.pow_add]
  refine Nat.pow_le_pow_right (by omega) ?_
  rw [Nat.pow_succ]; omega
theorem sqn_lim (x : Rat) : ∀ h, Lm (fun K => sqn (EP x K) h) (EP (dbl x h))
 | 0 => Lm.refl _
 | h + 1 => by
  have i := sqn_lim x h
  obtain ⟨B, _, hB⟩ := EP_bn (dbl x h)
  have a := EP_add (dbl x h) (dbl x h)
  have b := Lm.mul i.symm i.symm hB hB
  exact (a.trans b).symm
theorem rsum_abs {v : Nat} {y1 y2 : Int} (h1 : 8 * y1.natAbs ≤ 2 ^ v) (h2 : 8 * y2.natAbs ≤ 2 ^ v) : ∀ n, n ≤ v → (saR (reLo (2 ^ v) y1 y2) n).natAbs + 2 ^ (v - n) ≤ 2 * 2 ^ v ∧ (saR (reHi (2 ^ v) y1 y2) n).natAbs + 2 ^ (v - n) ≤ 2 * 2 ^ v
 | 0, _ => by
  have a := rE_abs h1 h2 0 (Nat.zero_le _)
  have e1 : saR (reLo (2 ^ v) y1 y2) 0 = (rE (2 ^ v) y1 y2 0).1 := rfl
  have e2 : saR (reHi (2 ^ v) y1 y2) 0 = (rE (2 ^ v) y1 y2 0).2 := rfl
  rw [e1, e2]
  rw [Nat.sub_zero] at a ⊢
  omega
 | n + 1, hn => by
  have i := rsum_abs h1 h2 n (by omega)
  have a := rE_abs h1 h2 (n + 1) hn
  have p : 2 ^ (v - n) = 2 * 2 ^ (v - (n + 1)) := by rw [show v - n = (v - (n + 1)) + 1 by omega, Nat.pow_succ, Nat.mul_comm]
  have e1 : saR (reLo (2 ^ v) y1 y2) (n + 1) = saR (reLo (2 ^ v) y1 y2) n + (rE (2 ^ v) y1 y2 (n + 1)).1 := rfl
  have e2 : saR (reHi (2 ^ v) y1 y2) (n + 1) = saR (reHi (2 ^ v) y1 y2) n + (rE (2 ^ v) y1 y2 (n + 1)).2 := rfl
  rw [e1, e2]
  omega
theorem ref_encl {x : Rat} {v s n h g : Nat} {y1 y2 : Int} (hv : v = s + g) (e1 : (y1 : Rat) ≤ x * ((2 ^ v : Int) : Rat)) (e2 : x * ((2 ^ v : Int) : Rat) ≤ (y2 : Rat)) (x1 : -1 ≤ 2 * x) (x2 : 2 * x ≤ 1) (n1 : (reLo (2 ^ v) y1 y2 n).natAbs ≤ 1) (n2 : (reHi (2 ^ v) y1 y2 n).natAbs ≤ 1) {e : Rat} (he : 0 < e) :
  EnE (EP (dbl x h)) s ((rQ (2 ^ v) (saR (reLo (2 ^ v) y1 y2) n - 3) (saR (reHi (2 ^ v) y1 y2) n + 3) h).1 / 2 ^ g) (-(-((rQ (2 ^ v) (saR (reLo (2 ^ v) y1 y2) n - 3) (saR (reHi (2 ^ v) y1 y2) n + 3) h).2) / 2 ^ g)) e := by
 refine EnE.of_lim (f := fun K => sqn (EP x K) h) ?_ (sqn_lim x h) he
 refine ⟨n + 1, fun K hK => ?_⟩
 have w := rS_wide (two_pos v) e1 e2 x1 x2 n1 n2 hK
 have q := rQ_enc (two_pos v) w.1 w.2 h
 have r := half_enc hv q.1 q.2
 constructor <;> grind
end Go.Proofs.YtlaciaoiihannaaGreatDoor

namespace Go.Proofs.YtlaciaoiihannaaGreatDoor
open Go.RowKit
set_option maxRecDepth 100000
set_option maxHeartbeats 2000000
theorem saS_saR (p : Nat → Int) : ∀ j, saS p j = saR p j
 | 0 => rfl
 | j + 1 => by show saS p j + p (j + 1) = saR p j + p (j + 1); rw [saS_saR p j]
def mlo (T y1 y2 : Int) (j : Nat) : Int := rm1 (reLo T y1 y2 j) (reHi T y1 y2 j) y1 y2 T
def mhi (T y1 y2 : Int) (j : Nat) : Int := rm2 (reLo T y1 y2 j) (reHi T y1 y2 j) y1 y2 T
def qlo (T a b : Int) (i : Nat) : Int := (rQ T a b i).1
def qhi (T a b : Int) (i : Nat) : Int := (rQ T a b i).2
theorem r14_terms {vv : Nat} {v xa xb : Int} (vn : v.toNat = vv) (v0 : 0 ≤ v) (hV : 3 ≤ vv ∧ vv ≤ 1400) (h1 : 8 * xa.natAbs ≤ 2 ^ vv) (h2 : 8 * xb.natAbs ≤ 2 ^ vv) :
  ∃ nn : Nat, ((reLo (2 ^ vv) xa xb nn).natAbs ≤ 1 ∧ (reHi (2 ^ vv) xa xb nn).natAbs ≤ 1) ∧ nn ≤ vv ∧ (∀ j, j ≤ nn → Impl Tryz.prog Amb 79 [(.agg [(.bool (decide ((reLo (2 ^ vv) xa xb j) < 0))), (N ((reLo (2 ^ vv) xa xb j).natAbs)), (.bool (decide ((reHi (2 ^ vv) xa xb j) < 0))), (N ((reHi (2 ^ vv) xa xb j).natAbs))])] (.bool (decide (nn ≤ j)))) ∧ (∀ j, j < nn → Impl Tryz.prog Amb 80 [(.agg [(.bool (decide ((reLo (2 ^ vv) xa xb j) < 0))), (N ((reLo (2 ^ vv) xa xb j).natAbs)), (.bool (decide ((reHi (2 ^ vv) xa xb j) < 0))), (N ((reHi (2 ^ vv) xa xb j).natAbs))]), (.agg [(.bool (decide (xa < 0))), (N xa.natAbs), (.bool (decide (xb < 0))), (N xb.natAbs)]), (.int .i64 v)] (.agg [(.bool (decide ((mlo (2 ^ vv) xa xb j) < 0))), (N ((mlo (2 ^ vv) xa xb j).natAbs)), (.bool (decide ((mhi (2 ^ vv) xa xb j) < 0))), (N ((mhi (2 ^ vv) xa xb j).natAbs))])) ∧ (∀ (j : Nat) (kk : Int), j < nn → kk = (j : Int) + 1 → Impl Tryz.prog Amb 52 [(.agg [(.bool (decide ((mlo (2 ^ vv) xa xb j) < 0))), (N ((mlo (2 ^ vv) xa xb j).natAbs)), (.bool (decide ((mhi (2 ^ vv) xa xb j) < 0))), (N ((mhi (2 ^ vv) xa xb j).natAbs))]), (.int .i64 kk)] (.agg [(.bool (decide ((reLo (2 ^ vv) xa xb (j + 1)) < 0))), (N ((reLo (2 ^ vv) xa xb (j + 1)).natAbs)), (.bool (decide ((reHi (2 ^ vv) xa xb (j + 1)) < 0))), (N ((reHi (2 ^ vv) xa xb (j + 1)).natAbs))])) ∧ (∀ j, j < nn → Impl Tryz.prog Amb 57 [(.agg [(.bool (decide ((saS (reLo (2 ^ vv) xa xb) j) < 0))), (N ((saS (reLo (2 ^ vv) xa xb) j).natAbs)), (.bool (decide ((saS (reHi (2 ^ vv) xa xb) j) < 0))), (N ((saS (reHi (2 ^ vv) xa xb) j).natAbs))]), (.agg [(.bool (decide ((reLo (2 ^ vv) xa xb (j + 1)) < 0))), (N ((reLo (2 ^ vv) xa xb (j + 1)).natAbs)), (.bool (decide ((reHi (2 ^ vv) xa xb (j + 1)) < 0))), (N ((reHi (2 ^ vv) xa xb (j + 1)).natAbs))])] (.agg [(.bool (decide ((saS (reLo (2 ^ vv) xa xb) (j + 1)) < 0))), (N ((saS (reLo (2 ^ vv) xa xb) (j + 1)).natAbs)), (.bool (decide ((saS (reHi (2 ^ vv) xa xb) (j + 1)) < 0))), (N ((saS (reHi (2 ^ vv) xa xb) (j + 1)).natAbs))])) ∧ (nn ≤ 10000) ∧ Impl Tryz.prog Amb 81 [(.agg [(.bool (decide ((saS (reLo (2 ^ vv) xa xb) nn) < 0))), (N ((saS (reLo (2 ^ vv) xa xb) nn).natAbs)), (.bool (decide ((saS (reHi (2 ^ vv) xa xb) nn) < 0))), (N ((saS (reHi (2 ^ vv) xa xb) nn).natAbs))]), (.int .i64 3)] (.agg [(.bool (decide ((saR (reLo (2 ^ vv) xa xb) nn - 3) < 0))), (N ((saR (reLo (2 ^ vv) xa xb) nn - 3).natAbs)), (.bool (decide ((saR (reHi (2 ^ vv) xa xb) nn + 3) < 0))), (N ((saR (reHi (2 ^ vv) xa xb) nn + 3).natAbs))]) := by
 obtain ⟨nn, n1, n2, n3⟩ := rE_small h1 h2
 have pa : ∀ j, j ≤ nn → (reLo (2 ^ vv) xa xb j).natAbs ≤ 1 * 2 ^ vv ∧ (reHi (2 ^ vv) xa xb j).natAbs ≤ 1 * 2 ^ vv := fun j hj => by
  have a := rE_abs h1 h2 j oO
  have b : 2 ^ (vv - j) ≤ 1 * 2 ^ vv := by rw [Nat.one_mul]; exact Nat.pow_le_pow_right oO oO
  exact ⟨Nat.le_trans a.1 b, Nat.le_trans a.2 b⟩
 have pl : ∀ j, j ≤ nn → L (reLo (2 ^ vv) xa xb j).natAbs ≤ 70 ∧ L (reHi (2 ^ vv) xa xb j).natAbs ≤ 70 := fun j hj => by
  have a := pa j hj
  exact ⟨abs_big (t := vv) (c := 1) a.1 oO oO, abs_big (t := vv) (c := 1) a.2 oO oO⟩
 have ml : ∀ j, j ≤ nn → L (mlo (2 ^ vv) xa xb j).natAbs ≤ 70 ∧ L (mhi (2 ^ vv) xa xb j).natAbs ≤ 70 := fun j hj => by
  have a := pa j hj
  have r := rm_abs (c := xa) (d := xb) (C := 1 * 2 ^ vv) (B := 1 * 2 ^ vv) (S := 2 ^ vv) (two_pos vv) a.1 a.2 oO oO (Nat.le_of_eq (by rw [toNat_two]))
  exact ⟨abs_big (t := vv) (c := 1) r.1 oO oO, abs_big (t := vv) (c := 1) r.2 oO oO⟩
 have xl : L xa.natAbs ≤ 70 ∧ L xb.natAbs ≤ 70 := ⟨abs_big (t := vv) (c := 1) oO oO oO, abs_big (t := vv) (c := 1) oO oO oO⟩
 have sl : ∀ j, j ≤ nn → L (saS (reLo (2 ^ vv) xa xb) j).natAbs ≤ 70 ∧ L (saS (reHi (2 ^ vv) xa xb) j).natAbs ≤ 70 := fun j hj => by
  have a := rsum_abs h1 h2 j oO
  have p := Nat.pow_pos (n := vv - j) (show 0 < 2 by omega)
  rw [saS_saR, saS_saR]
  exact ⟨abs_big (t := vv) (c := 2) oO oO oO, abs_big (t := vv) (c := 2) oO oO oO⟩
 refine ⟨nn, n2, n1, fun j hj => ?_, fun j hj => ?_, fun j kk hj hq => ?_, fun j hj => ?_, by omega, ?_⟩
 ·have a := pl j hj
  refine impl_eq (congrArg V.bool (decide_eq_decide.2 ?_)) (r13_Tiny (reLo (2 ^ vv) xa xb j) (reHi (2 ^ vv) xa xb j) oO oO)
  constructor
  ·intro q
   exact Decidable.byContradiction fun hn => n3 j oO q
  ·intro q
   rw [show j = nn by omega]; exact n2
 ·have a := pl j oO
  have h := r13_Mul (reLo (2 ^ vv) xa xb j) (reHi (2 ^ vv) xa xb j) xa xb v oO oO oO oO oO
  rw [vn] at h
  exact h
 ·subst hq
  have a := ml j oO
  exact r13_Over (mlo (2 ^ vv) xa xb j) (mhi (2 ^ vv) xa xb j) ((j : Int) + 1) oO oO oO
 ·have a := sl j oO
  have b := pl (j + 1) oO
  exact r13_Add (saS (reLo (2 ^ vv) xa xb) j) (saS (reHi (2 ^ vv) xa xb) j) (reLo (2 ^ vv) xa xb (j + 1)) (reHi (2 ^ vv) xa xb (j + 1)) oO oO oO oO
 ·have a := sl nn (Nat.le_refl _)
  have h := r13_Wide (saS (reLo (2 ^ vv) xa xb) nn) (saS (reHi (2 ^ vv) xa xb) nn) 3 oO oO oO
  rw [← saS_saR, ← saS_saR]
  exact h
theorem lt_le_R {a b c : Rat} (h : a < b) (k : b ≤ c) : a < c := by grind
theorem arg_small {m e : Int} {H vv : Nat} (hV : 3 ≤ vv) (h : topD m e + 3 ≤ (H : Int)) (h3 : 3 ≤ H) : (-1 ≤ 8 * dv m (e - (H : Int)) ∧ 8 * dv m (e - (H : Int)) ≤ 1) ∧ 8 * (flr (dv m (e - (H : Int))) vv).natAbs ≤ 2 ^ vv ∧ 8 * (cei (dv m (e - (H : Int))) vv).natAbs ≤ 2 ^ vv := by
 have ab : -1 ≤ 8 * dv m (e - (H : Int)) ∧ 8 * dv m (e - (H : Int)) ≤ 1 := by
  by_cases hm : m = 0
  ·rw [hm, dv_zero]; constructor <;> grind
  ·have t := (dv_top (e := e - (H : Int)) hm).1
   have tt : topD m (e - (H : Int)) = topD m e - (H : Int) := by unfold topD; rw [if_neg hm, if_neg hm]; omega
   have u : dv 1 (topD m (e - (H : Int))) ≤ dv 1 (-3) := by
    rw [dv_at (m := 1) (e := -3) (c := topD m (e - (H : Int))) oO, dv_le, Int.one_mul]
    have := two_pos (-3 - topD m (e - (H : Int))).toNat
    omega
   have w : 8 * dv 1 (-3) = 1 := of_decide_eq_true (by kernel_rfl)
   have t2 := lt_le_R t u
   clear t u tt
   generalize dv 1 (-3) = z at *
   rcases (show (m.natAbs : Int) = m ∨ (m.natAbs : Int) = -m by omega) with q | q
   ·have n0 : 0 ≤ dv m (e - (H : Int)) := dv_ge0.2 oO
    rw [q] at t2
    clear q
    generalize dv m (e - (H : Int)) = y at *
    constructor <;> grind
   ·have n0 : 0 ≤ dv (-m) (e - (H : Int)) := dv_ge0.2 oO
    rw [q] at t2
    rw [dv_neg] at t2 n0
    clear q
    generalize dv m (e - (H : Int)) = y at *
    constructor <;> grind
 generalize dv m (e - (H : Int)) = x at *
 have s1 := flr_sc x vv
 have s2 := cei_sc x vv
 have P : (0 : Rat) < ((2 ^ vv : Int) : Rat) := Rat.intCast_pos.2 (two_pos vv)
 have m1 := Rat.mul_le_mul_of_nonneg_right ab.1 (Rat.le_of_lt P)
 have m2 := Rat.mul_le_mul_of_nonneg_right ab.2 (Rat.le_of_lt P)
 have p8 : (2 : Int) ^ vv = 8 * 2 ^ (vv - 3) := by
  have : vv = 3 + (vv - 3) := by omega
  rw [this, Int.pow_add, show 3 + (vv - 3) - 3 = vv - 3 by omega]; rfl
 have pn : ((2 ^ vv : Nat) : Int) = (2 : Int) ^ vv := (pow_cast _).symm
 have k1 : -(8 * 2 ^ (vv - 3)) < 8 * (flr x vv + 1) := by
  refine Rat.intCast_lt_intCast.1 ?_
  rw [← p8, Rat.intCast_neg, Rat.intCast_mul, Rat.intCast_add]
  show -((2 ^ vv : Int) : Rat) < 8 * (((flr x vv : Int) : Rat) + 1)
  grind
 have k2 : 8 * (cei x vv - 1) < 8 * 2 ^ (vv - 3) := by
  refine Rat.intCast_lt_intCast.1 ?_
  rw [← p8, Rat.intCast_mul, Rat.intCast_sub]
  show 8 * (((cei x vv : Int) : Rat) - 1) < ((2 ^ vv : Int) : Rat)
  grind
 have k3 := (flr_cei1 x vv).2
 refine ⟨ab, ?_, ?_⟩ <;> omega
theorem r14_core (m e w v hv : Int) {vv H G : Nat} (vn : v.toNat = vv) (v0 : 0 ≤ v) (hn : (H : Int) = hv) (hG : vv = (w.toNat + 16) + G) (V1 : vv ≤ 1400) (hw : 0 ≤ w) (H3 : 3 ≤ H ∧ H ≤ 11) (hL : L (m).natAbs ≤ 20) (he : -1000 ≤ e ∧ e ≤ 200) (ht : topD m e + 3 ≤ hv) :
  ∃ (ma mb xa xb a0 b0 ra rb : Int) (nn : Nat), (Impl Tryz.prog Amb 36 [(yV m e), (.int .i64 ((0 : Int) - hv))] (.tup [(yV ma mb), (.int .i64 0)])) ∧ (Impl Tryz.prog Amb 54 [(yV ma mb), (.int .i64 v)] (.agg [(.bool (decide (xa < 0))), (N xa.natAbs), (.bool (decide (xb < 0))), (N xb.natAbs)])) ∧ (Impl Tryz.prog Amb 78 [(.int .i64 1), (.int .i64 v)] (.agg [(.bool (decide ((reLo (2 ^ vv) xa xb 0) < 0))), (N ((reLo (2 ^ vv) xa xb 0).natAbs)), (.bool (decide ((reHi (2 ^ vv) xa xb 0) < 0))), (N ((reHi (2 ^ vv) xa xb 0).natAbs))])) ∧ (∀ j, j ≤ nn → Impl Tryz.prog Amb 79 [(.agg [(.bool (decide ((reLo (2 ^ vv) xa xb j) < 0))), (N ((reLo (2 ^ vv) xa xb j).natAbs)), (.bool (decide ((reHi (2 ^ vv) xa xb j) < 0))), (N ((reHi (2 ^ vv) xa xb j).natAbs))])] (.bool (decide (nn ≤ j)))) ∧ (∀ j, j < nn → Impl Tryz.prog Amb 80 [(.agg [(.bool (decide ((reLo (2 ^ vv) xa xb j) < 0))), (N ((reLo (2 ^ vv) xa xb j).natAbs)), (.bool (decide ((reHi (2 ^ vv) xa xb j) < 0))), (N ((reHi (2 ^ vv) xa xb j).natAbs))]), (.agg [(.bool (decide (xa < 0))), (N xa.natAbs), (.bool (decide (xb < 0))), (N xb.natAbs)]), (.int .i64 v)] (.agg [(.bool (decide ((mlo (2 ^ vv) xa xb j) < 0))), (N ((mlo (2 ^ vv) xa xb j).natAbs)), (.bool (decide ((mhi (2 ^ vv) xa xb j) < 0))), (N ((mhi (2 ^ vv) xa xb j).natAbs))])) ∧ (∀ (j : Nat) (kk : Int), j < nn → kk = (j : Int) + 1 → Impl Tryz.prog Amb 52 [(.agg [(.bool (decide ((mlo (2 ^ vv) xa xb j) < 0))), (N ((mlo (2 ^ vv) xa xb j).natAbs)), (.bool (decide ((mhi (2 ^ vv) xa xb j) < 0))), (N ((mhi (2 ^ vv) xa xb j).natAbs))]), (.int .i64 kk)] (.agg [(.bool (decide ((reLo (2 ^ vv) xa xb (j + 1)) < 0))), (N ((reLo (2 ^ vv) xa xb (j + 1)).natAbs)), (.bool (decide ((reHi (2 ^ vv) xa xb (j + 1)) < 0))), (N ((reHi (2 ^ vv) xa xb (j + 1)).natAbs))])) ∧ (∀ j, j < nn → Impl Tryz.prog Amb 57 [(.agg [(.bool (decide ((saS (reLo (2 ^ vv) xa xb) j) < 0))), (N ((saS (reLo (2 ^ vv) xa xb) j).natAbs)), (.bool (decide ((saS (reHi (2 ^ vv) xa xb) j) < 0))), (N ((saS (reHi (2 ^ vv) xa xb) j).natAbs))]), (.agg [(.bool (decide ((reLo (2 ^ vv) xa xb (j + 1)) < 0))), (N ((reLo (2 ^ vv) xa xb (j + 1)).natAbs)), (.bool (decide ((reHi (2 ^ vv) xa xb (j + 1)) < 0))), (N ((reHi (2 ^ vv) xa xb (j + 1)).natAbs))])] (.agg [(.bool (decide ((saS (reLo (2 ^ vv) xa xb) (j + 1)) < 0))), (N ((saS (reLo (2 ^ vv) xa xb) (j + 1)).natAbs)), (.bool (decide ((saS (reHi (2 ^ vv) xa xb) (j + 1)) < 0))), (N ((saS (reHi (2 ^ vv) xa xb) (j + 1)).natAbs))])) ∧ (nn ≤ 10000) ∧ (Impl Tryz.prog Amb 81 [(.agg [(.bool (decide ((saS (reLo (2 ^ vv) xa xb) nn) < 0))), (N ((saS (reLo (2 ^ vv) xa xb) nn).natAbs)), (.bool (decide ((saS (reHi (2 ^ vv) xa xb) nn) < 0))), (N ((saS (reHi (2 ^ vv) xa xb) nn).natAbs))]), (.int .i64 3)] (.agg [(.bool (decide ((qlo (2 ^ vv) a0 b0 0) < 0))), (N ((qlo (2 ^ vv) a0 b0 0).natAbs)), (.bool (decide ((qhi (2 ^ vv) a0 b0 0) < 0))), (N ((qhi (2 ^ vv) a0 b0 0).natAbs))])) ∧ (∀ i : Nat, (i : Int) < hv → Impl Tryz.prog Amb 80 [(.agg [(.bool (decide ((qlo (2 ^ vv) a0 b0 i) < 0))), (N ((qlo (2 ^ vv) a0 b0 i).natAbs)), (.bool (decide ((qhi (2 ^ vv) a0 b0 i) < 0))), (N ((qhi (2 ^ vv) a0 b0 i).natAbs))]), (.agg [(.bool (decide ((qlo (2 ^ vv) a0 b0 i) < 0))), (N ((qlo (2 ^ vv) a0 b0 i).natAbs)), (.bool (decide ((qhi (2 ^ vv) a0 b0 i) < 0))), (N ((qhi (2 ^ vv) a0 b0 i).natAbs))]), (.int .i64 v)] (.agg [(.bool (decide ((qlo (2 ^ vv) a0 b0 (i + 1)) < 0))), (N ((qlo (2 ^ vv) a0 b0 (i + 1)).natAbs)), (.bool (decide ((qhi (2 ^ vv) a0 b0 (i + 1)) < 0))), (N ((qhi (2 ^ vv) a0 b0 (i + 1)).natAbs))])) ∧ (∀ i : Nat, (i : Int) = hv → Impl Tryz.prog Amb 59 [(.agg [(.bool (decide ((qlo (2 ^ vv) a0 b0 i) < 0))), (N ((qlo (2 ^ vv) a0 b0 i).natAbs)), (.bool (decide ((qhi (2 ^ vv) a0 b0 i) < 0))), (N ((qhi (2 ^ vv) a0 b0 i).natAbs))]), (.int .i64 v), (.int .i64 (w + 16))] (wV (mkM ra (-(w + 16))) (mkX ra (-(w + 16))) (mkM rb (-(w + 16))) (mkX rb (-(w + 16))))) ∧ (L ra.natAbs ≤ 300 ∧ L rb.natAbs ≤ 300) ∧ ∀ g : Rat, 0 < g → EnE (EP (dv m e)) (w.toNat + 16) ra rb g := by
 subst hn
 have hS := r08_Shift m e ((0 : Int) - (H : Int)) oO oO oO
 have mf := mk_fit (m := m) (e := e + ((0 : Int) - (H : Int))) oO oO
 have i1 := iMin_range (e + ((0 : Int) - (H : Int))) 0
 have i2 : iMax (e + ((0 : Int) - (H : Int))) 0 ≤ 200 := by unfold iMax; split <;> omega
 rw [mf.1] at hS
 have ed : e + ((0 : Int) - (H : Int)) = e - (H : Int) := by omega
 have sm := arg_small (vv := vv) oO ht H3.1
 have hx : dv (mkM m (e + ((0 : Int) - (H : Int)))) (mkX m (e + ((0 : Int) - (H : Int)))) = dv m (e - (H : Int)) := by rw [mf.2.2.2.2.2, ed]
 rw [← hx] at sm
 have hA := r13_At (mkM m (e + ((0 : Int) - (H : Int)))) (mkX m (e + ((0 : Int) - (H : Int)))) v oO oO mf.2.2.2.2.1 oO
 have vV : v = (vv : Int) := by omega
 have sc1 := (flr_sc (dv m (e - (H : Int))) vv).1
 have sc2 := (cei_sc (dv m (e - (H : Int))) vv).1
 rw [hx] at hA sm
 rw [← vV] at sc1 sc2 sm
 have dd : dbl (dv m (e - (H : Int))) H = dv m e := by
  rw [dbl_pow, dv_exp m e (H : Int), zp_nat]
 generalize mkM m (e + ((0 : Int) - (H : Int))) = ma at *
 generalize mkX m (e + ((0 : Int) - (H : Int))) = mb at *
 obtain ⟨ab, s1, s2⟩ := sm
 generalize dv m (e - (H : Int)) = x at *
 generalize flr x v = xa at *
 generalize cei x v = xb at *
 obtain ⟨nn, t1, t2, c4, c5, c6, c7, c8, t4⟩ := r14_terms vn v0 oO s1 s2
 have hO := r13_Of 1 v oO oO
 rw [vn, Int.one_mul] at hO
 have sb := rsum_abs s1 s2 nn t2
 have sp := Nat.pow_pos (n := vv - nn) (show 0 < 2 by omega)
 have p8 : 8 ≤ 2 ^ vv := by
  have := Nat.pow_le_pow_right (n := 2) (show 0 < 2 by omega) (show 3 ≤ vv by omega)
  omega
 have q1 : ((saR (reLo (2 ^ vv) xa xb) nn - 3)).natAbs ≤ 4 * 2 ^ vv := by omega
 have q2 : ((saR (reHi (2 ^ vv) xa xb) nn + 3)).natAbs ≤ 4 * 2 ^ vv := by omega
 have qa := rQ_abs q1 q2
 have enc := fun (g : Rat) (hg : 0 < g) => ref_encl (x := x) (v := vv) (s := w.toNat + 16) (n := nn) (h := H) (g := G) hG sc1 sc2 (by grind) (by grind) t1.1 t1.2 hg
 rw [dd] at enc
 generalize (saR (reLo (2 ^ vv) xa xb) nn - 3) = a0 at *
 generalize (saR (reHi (2 ^ vv) xa xb) nn + 3) = b0 at *
 have ql : ∀ i, i ≤ H → L (qlo (2 ^ vv) a0 b0 i).natAbs ≤ 200 ∧ L (qhi (2 ^ vv) a0 b0 i).natAbs ≤ 200 := fun i hi => by
  have a := qa i
  have p := Nat.pow_le_pow_right (n := 2) (show 0 < 2 by omega) (show i ≤ 11 by omega)
  have b := Nat.pow_lt_pow_right (a := 2) oO (show 2 * 2 ^ i + vv < 6000 by omega)
  exact ⟨L_pow2 (n := 6000) (Nat.lt_of_le_of_lt a.1 b) oO, L_pow2 (n := 6000) (Nat.lt_of_le_of_lt a.2 b) oO⟩
 have lH := ql H (Nat.le_refl _)
 have o1 := L_abs_shr (qlo (2 ^ vv) a0 b0 H) G
 have o2 := L_abs_neg (qhi (2 ^ vv) a0 b0 H)
 have o3 := L_abs_shr (-(qhi (2 ^ vv) a0 b0 H)) G
 have o4 := L_abs_neg (-(qhi (2 ^ vv) a0 b0 H) / 2 ^ G)
 refine ⟨ma, mb, xa, xb, a0, b0, qlo (2 ^ vv) a0 b0 H / 2 ^ G, -(-(qhi (2 ^ vv) a0 b0 H) / 2 ^ G), nn, hS, hA, hO, c4, c5, c6, c7, c8, t4, fun i hi => ?_, fun i hi => ?_, by omega, enc⟩
 ·have a := ql i oO
  have h := r13_Mul (qlo (2 ^ vv) a0 b0 i) (qhi (2 ^ vv) a0 b0 i) (qlo (2 ^ vv) a0 b0 i) (qhi (2 ^ vv) a0 b0 i) v oO oO oO oO oO
  rw [vn] at h
  exact h
 ·have e : i = H := by omega
  subst e
  have h := r13_Out (qlo (2 ^ vv) a0 b0 i) (qhi (2 ^ vv) a0 b0 i) v (w + 16) oO oO oO
  rw [show (v - (w + 16)).toNat = G by omega] at h
  exact h
theorem r14_AtE (m e w : Int) (hL : L (m).natAbs ≤ 20) (he : -1000 ≤ e ∧ e ≤ 200) (hw : 0 ≤ w ∧ w ≤ 200) (hd : -4000 ≤ dv m e) (ht : topD m e ≤ 8) :
  ∃ ra rb : Int, Impl Tryz.prog Amb 21 [(yV m e), (.int .i64 w)] (wV (mkM ra (-(w + 16))) (mkX ra (-(w + 16))) (mkM rb (-(w + 16))) (mkX rb (-(w + 16)))) ∧ (L ra.natAbs ≤ 300 ∧ L rb.natAbs ≤ 300) ∧ ∀ g : Rat, 0 < g → EnE (EP (dv m e)) (w.toNat + 16) ra rb g := by
 have hOf := r08_Of (-4000) oO
 have of := of_fit (n := -4000) oO
 have hCmp := r08_Cmp m e (mkM (-4000) 0) (mkX (-4000) 0) oO oO oO oO
 have hc : 0 ≤ cmpD m e (mkM (-4000) 0) (mkX (-4000) 0) := by
  refine Decidable.byContradiction fun hn => ?_
  have q := cmpD_neg.1 (show cmpD m e (mkM (-4000) 0) (mkX (-4000) 0) < 0 by omega)
  rw [of.2.2.2.2.2] at q
  have q : dv m e < -4000 := q
  grind
 have hTop := r08_Top m e oO oO
 have im := iMax_range 0 (topD m e)
 have tr := topD_range m e
 obtain ⟨H, hH⟩ : ∃ H : Nat, (H : Int) = ((iMax (0 : Int) (topD m e)) + 3) := ⟨(((iMax (0 : Int) (topD m e)) + 3)).toNat, by omega⟩
 by_cases hp : 0 ≤ m ∧ 0 < topD m e
 ·have s1 := shl_tp (topD m e) oO
  have s2 : (2 : Int) ^ (topD m e).toNat ≤ 256 := by
   rw [pow_cast]
   exact Int.ofNat_le.2 (Nat.pow_le_pow_right (n := 2) oO (show (topD m e).toNat ≤ 8 by omega))
  rw [← min_tp (topD m e) oO] at s1 s2
  obtain ⟨vv, hV⟩ : ∃ vv : Nat, (((w + 40) + ((2 : Int) * ((iMax (0 : Int) (topD m e)) + 3))) + ((3 : Int) * 2 ^ (min (topD m e).toNat (IntKind.bits .i64)))) = (vv : Int) := ⟨((((w + 40) + ((2 : Int) * ((iMax (0 : Int) (topD m e)) + 3))) + ((3 : Int) * 2 ^ (min (topD m e).toNat (IntKind.bits .i64))))).toNat, by omega⟩
  obtain ⟨ma, mb, xa, xb, a0, b0, ra, rb, nn, c1, c2, c3, c4, c5, c6, c7, c8, c9, c10, c11, l, enc⟩ := r14_core m e w (((w + 40) + ((2 : Int) * ((iMax (0 : Int) (topD m e)) + 3))) + ((3 : Int) * 2 ^ (min (topD m e).toNat (IntKind.bits .i64)))) ((iMax (0 : Int) (topD m e)) + 3) (vv := vv) (H := H) (G := vv - (w.toNat + 16)) oO oO hH oO oO oO oO hL he oO
  exact ⟨ra, rb, r14_AtP m e w _ _ _ (topD m e) ma mb xa xb _ _ _ _ nn _ _ _ _ (qlo (2 ^ vv) a0 b0) (qhi (2 ^ vv) a0 b0) oO hc oO hp hOf hCmp hTop c1 c2 c3 c4 c5 c6 c7 c8 c9 c10 oO c11, l, enc⟩
 ·obtain ⟨vv, hV⟩ : ∃ vv : Nat, ((w + 40) + ((2 : Int) * ((iMax (0 : Int) (topD m e)) + 3))) = (vv : Int) := ⟨(((w + 40) + ((2 : Int) * ((iMax (0 : Int) (topD m e)) + 3)))).toNat, by omega⟩
  obtain ⟨ma, mb, xa, xb, a0, b0, ra, rb, nn, c1, c2, c3, c4, c5, c6, c7, c8, c9, c10, c11, l, enc⟩ := r14_core m e w ((w + 40) + ((2 : Int) * ((iMax (0 : Int) (topD m e)) + 3))) ((iMax (0 : Int) (topD m e)) + 3) (vv := vv) (H := H) (G := vv - (w.toNat + 16)) oO oO hH oO oO oO oO hL he oO
  exact ⟨ra, rb, r14_AtN m e w _ _ _ (topD m e) ma mb xa xb _ _ _ _ nn _ _ _ _ (qlo (2 ^ vv) a0 b0) (qhi (2 ^ vv) a0 b0) oO hc oO oO hOf hCmp hTop c1 c2 c3 c4 c5 c6 c7 c8 c9 c10 oO c11, l, enc⟩
end Go.Proofs.YtlaciaoiihannaaGreatDoor

namespace Go.Proofs.YtlaciaoiihannaaGreatDoor
open Go.RowKit
set_option maxRecDepth 100000
set_option maxHeartbeats 2000000
theorem ex_valueF0 (m : Int) (ee : Int) (w : Int) (c0 : L (m).natAbs ≤ 8000) (c1 : -4096 ≤ w ∧ w ≤ 4096) (c2 : Impl Tryz.prog Amb 74 [(yV (-m) ee), (.int .i64 (w + 1))] (.bool true)) : Impl Tryz.prog Amb 76 [(yV m ee), (.int .i64 w)] (.agg [(.bool false), .nil, (.bool (decide ((1 : Int) < 0))), (N ((1 : Int).natAbs))]) := by
 exact impl_ob hP hAmb Tryz.func76 (by kernel_rfl) (.lits 2 <| .call (yV (-m) ee) <| .lit <| .yes <| .lit <| .call (.bool true) <| .lits 2 <| .call (zV (1 : Int)) <| .lits 3 <| .ret)
  (cast_ob (aI True.intro (aI (dy_Neg m ee oS) (have f2 := L_abs_neg m; aI (fits_i64 oS : (fits .i64 (w + 1)) = true) (aI (c2 ) (aI (int_Of 1 oS) (have f1 := (L_i64 oS : L (1 : Int).natAbs ≤ 2); (vsub_refl (.agg [(.bool false), .nil, (.bool (decide ((1 : Int) < 0))), (N ((1 : Int).natAbs))])))))))) (by kernel_rfl))
theorem vsub_s0 (a : Int) : vsub (.agg [.bool false, .nil, .bool (decide (a < 0)), N a.natAbs]) (.agg [.bool (decide ((0 : Int) < 0)), N (0 : Int).natAbs, .bool (decide (a < 0)), N a.natAbs]) := fun w S x hx => by
 obtain ⟨arr, rfl, hr⟩ := hx.agg_inv
 cases hr with | cons h1 hr => cases hr with | cons h2 hr => cases hr with | cons h3 hr => cases hr with | cons h4 hr => cases hr with | nil =>
  exact .agg (.cons (by simpa using h1) (.cons (rd_nil_N0 h2) (.cons h3 (.cons h4 .nil))))
theorem implw2 {P : Program} {C : World → Prop} {f : FuncId} {ds : List V} {r r' : V} (h : vsub r r') (k : Impl P C f ds r) : Impl P C f ds r' :=
 ⟨k.1, fun w S args hC hS hr => (k.2 w S args hC hS hr).mono fun _ _ hh => by
  obtain ⟨v, a, b, c⟩ := hh
  exact ⟨v, a, h _ _ _ b, c⟩⟩
theorem Lq.mulc {f g : Nat → Rat} (h : Lq f g) {c : Rat} (c0 : 0 < c) : Lq (fun K => f K * c) (fun K => g K * c) := fun e he => by
 have i0 := Rat.inv_pos.2 c0
 have ie := inv_one c0
 obtain ⟨N, h⟩ := h (e * c⁻¹) (Rat.mul_pos he i0)
 refine ⟨N, fun K hK => ?_⟩
 have m := Rat.mul_le_mul_of_nonneg_right (h K hK) (Rat.le_of_lt c0)
 show f K * c ≤ g K * c + e
 have : e * c⁻¹ * c = e := by rw [Rat.mul_assoc, ie, Rat.mul_one]
 grind
theorem EP_one2 {K : Nat} (h : 2 ≤ K) : 2 ≤ EP 1 K := by
 have a := EP_mono (x := 1) (by decide) h
 have b : EP 1 2 = 2 := of_decide_eq_true (by kernel_rfl)
 rw [b] at a; exact a
theorem EP_small {d : Rat} {n : Nat} (h : d ≤ -(n : Rat)) : Lq (fun K => EP d K * (2 : Rat) ^ n) (fun _ => 1) := by
 have p2 := two_one n
 have a := (EP_mono_lim h).mulc (c := (2 : Rat) ^ n) (by grind)
 have hn := EP_npow 1 n
 rw [Rat.mul_one] at hn
 obtain ⟨A, _, hA⟩ := EP_bn (-(n : Rat))
 obtain ⟨B, _, hB⟩ := EP_bn (n : Rat)
 obtain ⟨p, p0, N, hp⟩ := EP_pos (-(n : Rat))
 refine a.trans (Lq.trans (g := fun K => EP (-(n : Rat)) K * EP 1 K ^ n) (Lq.of_le (N := N + 2) fun K hK => ?_) (Lq.trans (Lm.mul (Lm.refl (EP (-(n : Rat)))) hn hA hB).2 ?_))
 ·have q := hp K oO
  have r := pow_monox (a := 2) (b := EP 1 K) (by decide) (EP_one2 oO) n
  exact Rat.mul_le_mul_of_nonneg_left r (by grind)
 ·refine Lq.trans (Lm.of_eq (N := 0) fun K _ => ?_).1 (EP_opp (n : Rat)).1
  exact Rat.mul_comm _ _
def gE : Rat := dv 1 (-40)
theorem gE_b : 0 < gE ∧ gE * 65536 + gE < 1 := ⟨of_decide_eq_true (by kernel_rfl), of_decide_eq_true (by kernel_rfl)⟩
theorem two_cast (n : Nat) : (2 : Rat) ^ n = ((2 ^ n : Int) : Rat) := by rw [← zp_nat, Rat.zpow_natCast]
theorem pow_up {a b : Nat} (h : a ≤ b) : ((2 ^ a : Int) : Rat) ≤ ((2 ^ b : Int) : Rat) := Rat.intCast_le_intCast.2 (by rw [pow_cast, pow_cast]; exact Int.ofNat_le.2 (Nat.pow_le_pow_right oO h))
theorem err_le {D w : Nat} (h : D + w ≤ 332) : err D * ((2 ^ w : Int) : Rat) ≤ gE := by
 unfold err
 have e : (2 : Rat) ^ D * (1048576 * eps) * ((2 ^ w : Int) : Rat) = ((2 ^ (D + w) : Int) : Rat) * (1048576 * eps) := by
  rw [two_cast, Int.pow_add, Rat.intCast_mul]; grind
 rw [e]
 have m := pow_up h
 have b := eps_bd
 have n := Rat.mul_le_mul_of_nonneg_right m (show 0 ≤ 1048576 * eps by grind)
 refine Rat.le_trans n ?_
 exact of_decide_eq_true (by kernel_rfl)
theorem ex_valueN (m ee w D : Int) (hw : 0 ≤ w ∧ w ≤ 276) (hm : L (m).natAbs ≤ 20) (he : -440 ≤ ee ∧ ee ≤ 130) (d2 : dv m ee ≤ 512) (hD : 100 * dv m ee + 36 ≤ 69 * (D : Rat)) (D0 : 0 ≤ D) (hD2 : w + D ≤ 332) :
  ∃ lo hi : Int, Impl Tryz.prog Amb 76 [(yV m ee), (.int .i64 w)] (.agg [(.bool (decide (lo < 0))), (N lo.natAbs), (.bool (decide (hi < 0))), (N hi.natAbs)]) ∧ EnE (EP (dv m ee)) w.toNat lo hi gE ∧ hi - lo ≤ 2 ∧ 0 ≤ lo ∧ L hi.natAbs ≤ 30 := by
 have w276 : (w : Rat) ≤ ((276 : Int) : Rat) := Rat.intCast_le_intCast.2 hw.2
 rw [show ((276 : Int) : Rat) = 276 from rfl] at w276
 rcases (Rat.le_total : -dv m ee ≤ (w : Rat) + 1 ∨ (w : Rat) + 1 ≤ -dv m ee) with h | h
 ·obtain ⟨k, lo, hi, hC, ⟨hk1, hk2⟩, hx, hE, hw2, h0, hl⟩ := ex_valueE m ee w D hw hm he ⟨⟨by grind, d2⟩, hD, h⟩ D0 oO
  refine ⟨lo, hi, hC, ?_, hw2, h0, hl⟩
  have n := XF_near (D := D.toNat) hx hk1 oO oO
  have r := hE.toE.near n
  exact r.mono (by have := err_le (D := D.toNat) (w := w.toNat) oO; grind)
 ·by_cases hq : -dv m ee = (w : Rat) + 1
  ·obtain ⟨k, lo, hi, hC, ⟨hk1, hk2⟩, hx, hE, hw2, h0, hl⟩ := ex_valueE m ee w D hw hm he ⟨⟨by grind, d2⟩, hD, by grind⟩ D0 oO
   refine ⟨lo, hi, hC, ?_, hw2, h0, hl⟩
   have n := XF_near (D := D.toNat) hx hk1 oO oO
   have r := hE.toE.near n
   exact r.mono (by have := err_le (D := D.toNat) (w := w.toNat) oO; grind)
  ·have n1 := L_abs_neg m
   have hB := ex_beyond (-m) ee (w + 1) oO oO oO
   have hB : Impl Tryz.prog Amb 74 [(yV (-m) ee), (.int .i64 (w + 1))] (.bool true) := by
    refine impl_eq (congrArg V.bool (decide_eq_true (cmpD_pos.2 ?_))) hB
    rw [(of_fit (n := w + 1) oO).2.2.2.2.2, dv_neg, Rat.intCast_add]
    show (w : Rat) + 1 < -dv m ee
    grind
   have hC := implw2 (vsub_s0 1) (ex_valueF0 m ee w oO oO hB)
   have l1 := L_lit 1 (by decide)
   refine ⟨0, 1, hC, ?_, by omega, by omega, by show L 1 ≤ 30; exact Nat.le_trans l1 oO⟩
   have wt : ((w.toNat : Nat) : Int) = w := by omega
   have wr : ((w.toNat : Nat) : Rat) = (w : Rat) := by
    have : (((w.toNat : Nat) : Int) : Rat) = (w : Rat) := by rw [wt]
    exact this
   obtain ⟨N1, s1⟩ := EP_small (d := dv m ee) (n := w.toNat) (by rw [wr]; grind) gE gE_b.1
   obtain ⟨p, p0, N2, s2⟩ := EP_pos (dv m ee)
   refine ⟨N1 + N2, fun K hK => ?_⟩
   have s1 := s1 K oO
   have s2 := s2 K oO
   have P : (0 : Rat) < ((2 ^ w.toNat : Int) : Rat) := Rat.intCast_pos.2 (two_pos _)
   have m1 := Rat.mul_nonneg (show 0 ≤ EP (dv m ee) K by grind) (Rat.le_of_lt P)
   have g := gE_b
   have s1 : EP (dv m ee) K * (2 : Rat) ^ w.toNat ≤ 1 + gE := s1
   rw [two_cast] at s1
   refine ⟨?_, s1⟩
   show (0 : Rat) ≤ _
   grind
theorem ex_ExpN (m ee n f w D : Int) (hw : 0 ≤ w ∧ w ≤ 276) (hm : L (m).natAbs ≤ 20) (he : -440 ≤ ee ∧ ee ≤ 130) (d2 : dv m ee ≤ 512) (hD : 100 * dv m ee + 36 ≤ 69 * (D : Rat)) (hn : L (n).natAbs ≤ 20) (hf : -440 ≤ f ∧ f ≤ 130) (d2' : dv n f ≤ 512) (hD' : 100 * dv n f + 36 ≤ 69 * (D : Rat)) (D0 : 0 ≤ D) (hD2 : w + D ≤ 332) :
  ∃ l1 h1 l2 h2 : Int, Impl Tryz.prog Amb 19 [(wV m ee n f), (.int .i64 w)] (.tup [(wV (mkM l1 (-w)) (mkX l1 (-w)) (mkM h2 (-w)) (mkX h2 (-w))), (.int .i64 0)]) ∧ (EnE (EP (dv m ee)) w.toNat l1 h1 gE ∧ h1 - l1 ≤ 2 ∧ 0 ≤ l1 ∧ L h1.natAbs ≤ 30) ∧ (EnE (EP (dv n f)) w.toNat l2 h2 gE ∧ h2 - l2 ≤ 2 ∧ 0 ≤ l2 ∧ L h2.natAbs ≤ 30) ∧ L l1.natAbs ≤ 30 := by
 obtain ⟨l1, h1, hA, EA, wA, pA, LA⟩ := ex_valueN m ee w D hw hm he d2 hD D0 hD2
 obtain ⟨l2, h2, hB, EB, wB, pB, LB⟩ := ex_valueN n f w D hw hn hf d2' hD' D0 hD2
 have ge := gE_b
 have le1 : l1 ≤ h1 := EA.le EA (Lq.refl _) (by grind)
 have z1 : L l1.natAbs ≤ 30 := Nat.le_trans (L_mono oO) LA
 have mA := dy_Make l1 (0 - w) oO oO
 have mB := dy_Make h2 (0 - w) oO oO
 rw [Int.zero_sub, mk_fine2 (m := l1) (e := -w) oO oO] at mA
 rw [Int.zero_sub, mk_fine2 (m := h2) (e := -w) oO oO] at mB
 have hb : Impl Tryz.prog Amb 74 [(yV n f), (.int .i64 1000)] (.bool false) := by
  refine impl_eq (congrArg V.bool (decide_eq_false fun q => ?_)) (ex_beyond n f 1000 oO oO oO)
  have q := cmpD_pos.1 q
  rw [(of_fit (n := 1000) oO).2.2.2.2.2] at q
  have q : (1000 : Rat) < dv n f := q
  grind
 exact ⟨l1, h1, l2, h2, ex_Exp0 m ee n f w l1 h1 l2 h2 _ _ _ _ oO hb hA hB (by rw [Int.zero_sub]; exact mA) (by rw [Int.zero_sub]; exact mB), ⟨EA, wA, pA, LA⟩, ⟨EB, wB, pB, LB⟩, z1⟩
theorem near_E {f f' : Nat → Rat} {s : Nat} {l1 h1 l2 h2 a1 b1 a2 b2 : Int} (hl : Lq f f') (w1 : h1 - l1 ≤ 2) (w2 : h2 - l2 ≤ 2) (e1 : EnE f s l1 h1 gE) (e2 : EnE f' s l2 h2 gE)
  (e3 : EnE f (s + 16) a1 b1 gE) (e4 : EnE f' (s + 16) a2 b2 gE) : l1 ≤ h2 ∧ l1 * 2 ^ 16 ≤ b1 ∧ a1 ≤ (l1 + 2) * 2 ^ 16 ∧ a2 ≤ h2 * 2 ^ 16 ∧ (h2 - 2) * 2 ^ 16 ≤ b2 := by
 have ge := gE_b
 have c : ((2 ^ 16 : Int) : Rat) = 65536 := rfl
 have m1 := e1.meet e3 (by rw [c]; grind)
 have m2 := e2.meet e4 (by rw [c]; grind)
 have g := e1.le e2 hl (by grind)
 omega
theorem dv_tople {m e t : Int} (h : topD m e ≤ t) : -(dv 1 t) ≤ dv m e ∧ dv m e ≤ dv 1 t := by
 by_cases hm : m = 0
 ·have := dv_ge0 (m := 1) (e := t) |>.2 (by decide)
  rw [hm, dv_zero]; constructor <;> grind
 ·have a := (dv_top (e := e) hm).1
  have u : dv 1 (topD m e) ≤ dv 1 t := by
   rw [dv_at (m := 1) (e := t) (c := topD m e) oO, dv_le, Int.one_mul]
   have := two_pos (t - topD m e).toNat
   omega
  rcases (show (m.natAbs : Int) = m ∨ (m.natAbs : Int) = -m by omega) with q | q
  ·have n0 : 0 ≤ dv m e := dv_ge0.2 oO
   rw [q] at a
   constructor <;> grind
  ·have n0 : 0 ≤ dv (-m) e := dv_ge0.2 oO
   rw [q] at a
   rw [dv_neg] at a n0
   constructor <;> grind
theorem shx_vdb {m e : Int} (hv : vdb m e = true) {j : Nat} (hf : -65536 ≤ shx m e j ∧ shx m e j ≤ 65536) : vdb m (shx m e j) = true := by
 by_cases hm : m = 0
 ·subst hm
  exact vdb_iff.2 (.inl ⟨rfl, by unfold shx; rw [if_pos rfl]⟩)
 ·exact vdb_sh hv hm hf
theorem shx_dv (m e : Int) (j : Nat) : dv m (shx m e j) * (2 : Rat) ^ ((20 * (j : Int) : Int)) = dv m e := by
 by_cases hm : m = 0
 ·subst hm; rw [dv_zero, dv_zero, Rat.zero_mul]
 ·rw [dv_exp m e (20 * (j : Int))]
  unfold shx; rw [if_neg hm]
theorem shx_le {m e n f : Int} {j : Nat} (h : dv m e ≤ dv n f) : dv m (shx m e j) ≤ dv n (shx n f j) := by
 refine Rat.le_of_mul_le_mul_right (c := (2 : Rat) ^ ((20 * (j : Int) : Int))) ?_ (zp_pos _)
 rw [shx_dv, shx_dv]; exact h
theorem l14_argN (b1 : Bool) (l1 : List Nat) (e1 : Int) (b2 : Bool) (l2 : List Nat) (e2 : Int) (fa : Int) (c0 : Dig l1) (c1 : l1.length ≤ 9223372036854775807) (c2 : (-9223372036854775808 : Int) ≤ e1 ∧ e1 ≤ 9223372036854775807) (c3 : Dig l2) (c4 : l2.length ≤ 9223372036854775807) (c5 : (-9223372036854775808 : Int) ≤ e2 ∧ e2 ≤ 9223372036854775807) (hfa : 0 ≤ fa ∧ fa ≤ 100) : ∃ (m ee n f : Int) (ok : Bool), Impl Tryz.prog Amb 16 [(.agg [(.bool b1), (.sl 1 (U l1)), (.int .i64 e1), (.bool b2), (.sl 1 (U l2)), (.int .i64 e2)]), (.int .i64 fa)] (.tup [(wV m ee n f), (.bool ok)]) ∧ (L m.natAbs ≤ 2 ∧ L n.natAbs ≤ 2) ∧ ((-440 ≤ ee ∧ ee ≤ 104) ∧ (-440 ≤ f ∧ f ≤ 104)) ∧ (ok = true → (topD m ee ≤ fa ∧ topD n f ≤ fa) ∧ (vdb m ee = true ∧ vdb n f = true) ∧ dv m ee ≤ dv n f) := by
 have fa' := iv_fit (b := b1) (e := e1) (c := b2) (f := e2) (n := 2) (k := 40) c0 c3 oO oO
 have hi := mill_Iv b1 l1 e1 b2 l2 e2 2 40 c0 c1 c3 c4 c2 c5 oO oO
 generalize (ivM b1 l1 e1 b2 l2 e2 2 40) = m at fa' hi
 generalize (ivX b1 l1 e1 b2 l2 e2 2 40) = ee at fa' hi
 generalize (ivN b1 l1 e1 b2 l2 e2 2 40) = n at fa' hi
 generalize (ivF b1 l1 e1 b2 l2 e2 2 40) = f at fa' hi
 by_cases hok : ((l1.length : Int) ≤ 2 ∧ (l2.length : Int) ≤ 2)
 ·rw [decide_eq_true hok] at hi
  obtain ⟨nn, hn, ht⟩ := arg_rounds (m := m) (n := n) (ee := ee) (f := f) (fa := fa) oO oO oO oO oO
  have s1 := fun j (hj : j ≤ 20) => shx_fit (m := m) (e := ee) (j := j) oO oO hj
  have s2 := fun j (hj : j ≤ 20) => shx_fit (m := n) (e := f) (j := j) oO oO hj
  refine ⟨m, shx m ee nn, n, shx n f nn, true, l14_argT b1 l1 e1 b2 l2 e2 fa m ee n f nn ?_ oO ht ?_ ?_ ?_ ?_, by omega, ⟨s1 nn hn, s2 nn hn⟩, fun _ => ⟨(ht nn (Nat.le_refl _)).1 rfl, ⟨shx_vdb fa'.2.1 (by have := s1 nn hn; omega), shx_vdb fa'.2.2.1 (by have := s2 nn hn; omega)⟩, shx_le fa'.2.2.2⟩⟩
  ·rw [shx_zero fa'.2.1, shx_zero fa'.2.2.1]; exact hi
  ·intro j hj; have := s1 j oO; exact r08_Top m _ oO oO
  ·intro j hj; have := s2 j oO; exact r08_Top n _ oO oO
  ·intro j hj; exact shx_step fa'.2.1 oO oO oO
  ·intro j hj; exact shx_step fa'.2.2.1 oO oO oO
 ·rw [decide_eq_false hok] at hi
  exact ⟨m, ee, n, f, false, l14_argF b1 l1 e1 b2 l2 e2 fa m ee n f hi, by omega, by omega, fun h => by cases h⟩
end Go.Proofs.YtlaciaoiihannaaGreatDoor
