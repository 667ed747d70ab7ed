/-
  Lower layers: what functions of the program compute, and plain facts. Conditions: as the theorems say.
-/
import Derived.Test.YtmbpoibhamlkbaaGreatDoorPlV
set_option linter.unusedVariables false
set_option linter.unusedSimpArgs false
namespace Go.Proofs.YtmbpoibhamlkbaaGreatDoor
open Go.RowKit
set_option maxRecDepth 100000

def r11_mul_out_mk (m ee n f p g q h w : Int) (x : (Int) ⊕ ((Int) ⊕ (Int))) : St := Sum.elim (fun (x : Int) => ⟨mkS 36 [(2, (.val (.int .i64 w))), (3, (.own 0 0)), (4, (.own 1 0)), (6, (.own 2 0)), (8, (.val .nil)), (14, (.val (.agg [(.bool (decide ((dv m ee).num < 0))), (N (((dv m ee).num).natAbs)), (N ((dv m ee).den)), (.bool (decide ((dv n f).num < 0))), (N (((dv n f).num).natAbs)), (N ((dv n f).den))]))), (15, (.val (.int .i64 0)))], [⟨true, false, [(V.bool (decide (m < 0))), (N m.natAbs), (V.int .i64 ee), (V.bool (decide (n < 0))), (N n.natAbs), (V.int .i64 f)]⟩, ⟨true, false, [(V.bool (decide (p < 0))), (N p.natAbs), (V.int .i64 g), (V.bool (decide (q < 0))), (N q.natAbs), (V.int .i64 h)]⟩, ⟨true, false, [(V.bool false), V.nil, (V.int .i64 0), (V.bool false), V.nil, (V.int .i64 0)]⟩]⟩) (fun (x : (Int) ⊕ (Int)) => Sum.elim (fun (x : Int) => ⟨mkS 36 [(2, (.val (.int .i64 w))), (3, (.own 0 0)), (4, (.own 1 0)), (6, (.own 2 0)), (8, (.osl 3 0 2 3)), (14, (.val (.agg [(.bool (decide ((dv m ee).num < 0))), (N (((dv m ee).num).natAbs)), (N ((dv m ee).den)), (.bool (decide ((dv n f).num < 0))), (N (((dv n f).num).natAbs)), (N ((dv n f).den))]))), (15, (.val (.int .i64 1)))], [⟨true, false, [(V.bool (decide (m < 0))), (N m.natAbs), (V.int .i64 ee), (V.bool (decide (n < 0))), (N n.natAbs), (V.int .i64 f)]⟩, ⟨true, false, [(V.bool (decide (p < 0))), (N p.natAbs), (V.int .i64 g), (V.bool (decide (q < 0))), (N q.natAbs), (V.int .i64 h)]⟩, ⟨true, false, [(V.bool false), V.nil, (V.int .i64 0), (V.bool false), V.nil, (V.int .i64 0)]⟩, ⟨true, false, [(V.bool (decide (((dv m ee) * (dv p g)).num < 0))), (N ((((dv m ee) * (dv p g)).num).natAbs)), (N (((dv m ee) * (dv p g)).den)), (V.bool (decide (((dv m ee) * (dv q h)).num < 0))), (N ((((dv m ee) * (dv q h)).num).natAbs)), (N (((dv m ee) * (dv q h)).den))]⟩]⟩) (fun (x : Int) => ⟨mkS 36 [(2, (.val (.int .i64 w))), (3, (.own 0 0)), (4, (.own 1 0)), (6, (.own 2 0)), (8, (.osl 3 0 4 3)), (14, (.val (.agg [(.bool (decide ((dv m ee).num < 0))), (N (((dv m ee).num).natAbs)), (N ((dv m ee).den)), (.bool (decide ((dv n f).num < 0))), (N (((dv n f).num).natAbs)), (N ((dv n f).den))]))), (15, (.val (.int .i64 2)))], [⟨true, false, [(V.bool (decide (m < 0))), (N m.natAbs), (V.int .i64 ee), (V.bool (decide (n < 0))), (N n.natAbs), (V.int .i64 f)]⟩, ⟨true, false, [(V.bool (decide (p < 0))), (N p.natAbs), (V.int .i64 g), (V.bool (decide (q < 0))), (N q.natAbs), (V.int .i64 h)]⟩, ⟨true, false, [(V.bool false), V.nil, (V.int .i64 0), (V.bool false), V.nil, (V.int .i64 0)]⟩, ⟨true, false, [(V.bool (decide (((dv m ee) * (dv p g)).num < 0))), (N ((((dv m ee) * (dv p g)).num).natAbs)), (N (((dv m ee) * (dv p g)).den)), (V.bool (decide (((dv m ee) * (dv q h)).num < 0))), (N ((((dv m ee) * (dv q h)).num).natAbs)), (N (((dv m ee) * (dv q h)).den)), (V.bool (decide (((dv n f) * (dv p g)).num < 0))), (N ((((dv n f) * (dv p g)).num).natAbs)), (N (((dv n f) * (dv p g)).den)), (V.bool (decide (((dv n f) * (dv q h)).num < 0))), (N ((((dv n f) * (dv q h)).num).natAbs)), (N (((dv n f) * (dv q h)).den))]⟩]⟩) x) x
def r11_mul_out_I (_ _ _ _ _ _ _ _ _ : Int) (x : (Int) ⊕ ((Int) ⊕ (Int))) : Prop := Sum.elim (fun (x : Int) => x = x) (fun (x : (Int) ⊕ (Int)) => Sum.elim (fun (x : Int) => x = x) (fun (x : Int) => x = x) x) x
def r11_mul_out_mu (_ _ _ _ _ _ _ _ _ : Int) (x : (Int) ⊕ ((Int) ⊕ (Int))) : Nat := Sum.elim (fun (x : Int) => 9 - 0) (fun (x : (Int) ⊕ (Int)) => Sum.elim (fun (x : Int) => 9 - 1) (fun (x : Int) => 9 - 2) x) x
def r11_mul_out_ex (m ee n f p g q h w : Int) (y : Int) : Ex × St := (.exit 0, ⟨mkS 36 [(2, (.val (.int .i64 w))), (6, (.own 2 0)), (8, (.osl 3 0 4 3))], [⟨true, false, [(V.bool (decide (m < 0))), (N m.natAbs), (V.int .i64 ee), (V.bool (decide (n < 0))), (N n.natAbs), (V.int .i64 f)]⟩, ⟨true, false, [(V.bool (decide (p < 0))), (N p.natAbs), (V.int .i64 g), (V.bool (decide (q < 0))), (N q.natAbs), (V.int .i64 h)]⟩, ⟨true, false, [(V.bool false), V.nil, (V.int .i64 0), (V.bool false), V.nil, (V.int .i64 0)]⟩, ⟨true, false, [(V.bool (decide (((dv m ee) * (dv p g)).num < 0))), (N ((((dv m ee) * (dv p g)).num).natAbs)), (N (((dv m ee) * (dv p g)).den)), (V.bool (decide (((dv m ee) * (dv q h)).num < 0))), (N ((((dv m ee) * (dv q h)).num).natAbs)), (N (((dv m ee) * (dv q h)).den)), (V.bool (decide (((dv n f) * (dv p g)).num < 0))), (N ((((dv n f) * (dv p g)).num).natAbs)), (N (((dv n f) * (dv p g)).den)), (V.bool (decide (((dv n f) * (dv q h)).num < 0))), (N ((((dv n f) * (dv q h)).num).natAbs)), (N (((dv n f) * (dv q h)).den))]⟩]⟩)
def r11_mul_out_J (_ _ _ _ _ _ _ _ _ : Int) (y : Int) : Prop := y = y
abbrev r11_mul_out_N (m ee n f p g q h w : Int) := NX (r11_mul_out_mk m ee n f p g q h w) (r11_mul_out_I m ee n f p g q h w) (r11_mul_out_mu m ee n f p g q h w) (r11_mul_out_ex m ee n f p g q h w) (r11_mul_out_J m ee n f p g q h w)
theorem r11_mul_out (m ee n f p g q h w : Int) (c0 : L (m).natAbs ≤ 600)(c1 : (-20000 : Int) ≤ ee ∧ ee ≤ 20000)(c2 : L (n).natAbs ≤ 600)(c3 : (-20000 : Int) ≤ f ∧ f ≤ 20000)(c4 : L (p).natAbs ≤ 600)(c5 : (-20000 : Int) ≤ g ∧ g ≤ 20000)(c6 : L (q).natAbs ≤ 600)(c7 : (-20000 : Int) ≤ h ∧ h ≤ 20000)(c8 : vdb m ee = true)(c9 : vdb n f = true)(c10 : vdb p g = true)(c11 : vdb q h = true)(c12 : (-9223372036854775808 : Int) ≤ w ∧ w ≤ 9223372036854775807) (x0 : (Int) ⊕ ((Int) ⊕ (Int))) (hI : r11_mul_out_I m ee n f p g q h w x0) : LoopOk Tryz.prog Amb (loopN Tryz.f61 0) (r11_mul_out_mk m ee n f p g q h w x0) (fun e st_ => ∃ y, r11_mul_out_J m ee n f p g q h w y ∧ r11_mul_out_ex m ee n f p g q h w y = (e, st_)) :=
  loop_ob hP hAmb ⟨[2, 3, 4, 6, 8, 14, 15], 3, []⟩ (r11_mul_out_mk m ee n f p g q h w) (r11_mul_out_I m ee n f p g q h w) (r11_mul_out_mu m ee n f p g q h w) (r11_mul_out_ex m ee n f p g q h w) (r11_mul_out_J m ee n f p g q h w) x0 hI (Sum.elim (fun u => .lits 6 <| .call (.agg [(.bool (decide ((dv p g).num < 0))), (N (((dv p g).num).natAbs)), (N ((dv p g).den)), (.bool (decide ((dv q h).num < 0))), (N (((dv q h).num).natAbs)), (N ((dv q h).den))]) <| .loop ⟨[2, 3, 4, 6, 8, 10, 14, 15, 19, 20], 4, []⟩ ((r11_mul_in0_mk m ee n f p g q h w (Sum.inl (0 : Int)))) (Int) (r11_mul_in0_ex m ee n f p g q h w) (r11_mul_in0_J m ee n f p g q h w) (fun y => .lit <| .yes <| .fin3 ⟨[2, 3, 4, 6, 8, 14, 15], [0, 1, 2, 4]⟩)) (Sum.elim (fun u => .lits 6 <| .call (.agg [(.bool (decide ((dv p g).num < 0))), (N (((dv p g).num).natAbs)), (N ((dv p g).den)), (.bool (decide ((dv q h).num < 0))), (N (((dv q h).num).natAbs)), (N ((dv q h).den))]) <| .loop ⟨[2, 3, 4, 6, 8, 10, 14, 15, 19, 20], 5, []⟩ ((r11_mul_in1_mk m ee n f p g q h w (Sum.inl (0 : Int)))) (Int) (r11_mul_in1_ex m ee n f p g q h w) (r11_mul_in1_J m ee n f p g q h w) (fun y => .lit <| .yes <| .fin3 ⟨[2, 3, 4, 6, 8, 14, 15], [0, 1, 2, 3]⟩)) (fun u => .lits 2 <| .fin2 ⟨[2, 6, 8], 4, []⟩))) (by
    rintro (u | u | u) hI
    · skip
      have hI : u = u := hI
      have h1 := hI
      have v0 := dv_L c8 oO
      have v1 := dv_L c9 oO
      have v2 := dv_L c10 oO
      have v3 := dv_L c11 oO
      exact cast_ob (aI True.intro (aI (r11_ends p g q h oO oO oO oO oO oO) (have f102 := (dv_L ‹vdb q h = true› oO : L (dv q h).num.natAbs ≤ L (q).natAbs + 2050 ∧ L (dv q h).den ≤ 2050); have f101 := (dv_L ‹vdb p g = true› oO : L (dv p g).num.natAbs ≤ L (p).natAbs + 2050 ∧ L (dv p g).den ≤ 2050); aI tT (aI (rfl : (r11_mul_in0_mk m ee n f p g q h w (Sum.inl (0 : Int))) = (r11_mul_in0_mk m ee n f p g q h w (Sum.inl (0 : Int)))) (aI (r11_mul_in0 m ee n f p g q h w c0 c1 c2 c3 c4 c5 c6 c7 c8 c9 c10 c11 c12 (Sum.inl (0 : Int)) (show (0 : Int) = (0 : Int) from rfl)) (fun y (hJ : r11_mul_in0_J m ee n f p g q h w y) => have hJ : y = y := hJ; aI tT (aI tT ((nx_next (Sum.inr (Sum.inl u)) (show u = u from rfl) (show 9 - 1 < 9 - 0 by omega) : r11_mul_out_N m ee n f p g q h w (Sum.inl u) .normal (r11_mul_out_mk m ee n f p g q h w (Sum.inr (Sum.inl u)))))))))))) (by kernel_rfl)
    · skip
      have hI : u = u := hI
      have h1 := hI
      have v0 := dv_L c8 oO
      have v1 := dv_L c9 oO
      have v2 := dv_L c10 oO
      have v3 := dv_L c11 oO
      exact cast_ob (aI True.intro (aI (r11_ends p g q h oO oO oO oO oO oO) (have f102 := (dv_L ‹vdb q h = true› oO : L (dv q h).num.natAbs ≤ L (q).natAbs + 2050 ∧ L (dv q h).den ≤ 2050); have f101 := (dv_L ‹vdb p g = true› oO : L (dv p g).num.natAbs ≤ L (p).natAbs + 2050 ∧ L (dv p g).den ≤ 2050); aI tT (aI (rfl : (r11_mul_in1_mk m ee n f p g q h w (Sum.inl (0 : Int))) = (r11_mul_in1_mk m ee n f p g q h w (Sum.inl (0 : Int)))) (aI (r11_mul_in1 m ee n f p g q h w c0 c1 c2 c3 c4 c5 c6 c7 c8 c9 c10 c11 c12 (Sum.inl (0 : Int)) (show (0 : Int) = (0 : Int) from rfl)) (fun y (hJ : r11_mul_in1_J m ee n f p g q h w y) => have hJ : y = y := hJ; aI tT (aI tT ((nx_next (Sum.inr (Sum.inr u)) (show u = u from rfl) (show 9 - 2 < 9 - 1 by omega) : r11_mul_out_N m ee n f p g q h w (Sum.inr (Sum.inl u)) .normal (r11_mul_out_mk m ee n f p g q h w (Sum.inr (Sum.inr u)))))))))))) (by kernel_rfl)
    · skip
      have hI : u = u := hI
      have h1 := hI
      have v0 := dv_L c8 oO
      have v1 := dv_L c9 oO
      have v2 := dv_L c10 oO
      have v3 := dv_L c11 oO
      exact cast_ob (aI True.intro (aI tT ((nx_exit 0 ((r11_mul_out_ex m ee n f p g q h w u).2) u (show u = u from rfl) rfl : r11_mul_out_N m ee n f p g q h w (Sum.inr (Sum.inr u)) (.exit 0) ((r11_mul_out_ex m ee n f p g q h w u).2))))) (by kernel_rfl))

theorem r11_Mul (m : Int) (ee : Int) (n : Int) (f : Int) (p : Int) (g : Int) (q : Int) (h : Int) (w : Int) (c0 : L (m).natAbs ≤ 600) (c1 : (-20000 : Int) ≤ ee ∧ ee ≤ 20000) (c2 : L (n).natAbs ≤ 600) (c3 : (-20000 : Int) ≤ f ∧ f ≤ 20000) (c4 : L (p).natAbs ≤ 600) (c5 : (-20000 : Int) ≤ g ∧ g ≤ 20000) (c6 : L (q).natAbs ≤ 600) (c7 : (-20000 : Int) ≤ h ∧ h ≤ 20000) (c8 : vdb m ee = true) (c9 : vdb n f = true) (c10 : vdb p g = true) (c11 : vdb q h = true) (c12 : (-9223372036854775808 : Int) ≤ w ∧ w ≤ 9223372036854775807) : Impl Tryz.prog Amb 61 [(wV m ee n f), (wV p g q h), (.int .i64 w)] (enV (mlLo m ee n f p g q h) (mlHi m ee n f p g q h) w) := by
  have v0 := dv_L c8 oO
  have v1 := dv_L c9 oO
  have v2 := dv_L c10 oO
  have v3 := dv_L c11 oO
  have u0 := q_mulL (dv m ee) (dv p g)
  have u1 := q_mulL (dv m ee) (dv q h)
  have u2 := q_mulL (dv n f) (dv p g)
  have u3 := q_mulL (dv n f) (dv q h)
  exact impl_ob hP hAmb Tryz.func61 (by kernel_rfl) (.lits 2 <| .call (.agg [(.bool (decide ((dv m ee).num < 0))), (N (((dv m ee).num).natAbs)), (N ((dv m ee).den)), (.bool (decide ((dv n f).num < 0))), (N (((dv n f).num).natAbs)), (N ((dv n f).den))]) <| .loop ⟨[2, 3, 4, 6, 8, 14, 15], 3, []⟩ ((r11_mul_out_mk m ee n f p g q h w (Sum.inl (0 : Int)))) (Int) (r11_mul_out_ex m ee n f p g q h w) (r11_mul_out_J m ee n f p g q h w) (fun y => .yes <| .call (enV (qmin (qmin (qmin ((dv m ee) * (dv p g)) ((dv m ee) * (dv q h))) ((dv n f) * (dv p g))) ((dv n f) * (dv q h))) (qmax (qmax (qmax ((dv m ee) * (dv p g)) ((dv m ee) * (dv q h))) ((dv n f) * (dv p g))) ((dv n f) * (dv q h))) w) <| .lits 2 <| .ret))
    (cast_ob (aI True.intro (aI (r11_ends m ee n f oA oA oA oA oA oA) (have f3 := (dv_L ‹vdb n f = true› oA : L (dv n f).num.natAbs ≤ L (n).natAbs + 2050 ∧ L (dv n f).den ≤ 2050); have f2 := (dv_L ‹vdb m ee = true› oA : L (dv m ee).num.natAbs ≤ L (m).natAbs + 2050 ∧ L (dv m ee).den ≤ 2050); aI tT (aI (rfl : (r11_mul_out_mk m ee n f p g q h w (Sum.inl (0 : Int))) = (r11_mul_out_mk m ee n f p g q h w (Sum.inl (0 : Int)))) (aI (r11_mul_out m ee n f p g q h w c0 c1 c2 c3 c4 c5 c6 c7 c8 c9 c10 c11 c12 (Sum.inl (0 : Int)) (show (0 : Int) = (0 : Int) from rfl)) (fun y (hJ : r11_mul_out_J m ee n f p g q h w y) => have hJ : y = y := hJ; aI (ok_arg oA : ((true && Nat.ble (0 + (4 * 3)) ([(V.bool (decide (((dv m ee) * (dv p g)).num < 0))), (N ((((dv m ee) * (dv p g)).num).natAbs)), (N (((dv m ee) * (dv p g)).den)), (V.bool (decide (((dv m ee) * (dv q h)).num < 0))), (N ((((dv m ee) * (dv q h)).num).natAbs)), (N (((dv m ee) * (dv q h)).den)), (V.bool (decide (((dv n f) * (dv p g)).num < 0))), (N ((((dv n f) * (dv p g)).num).natAbs)), (N (((dv n f) * (dv p g)).den)), (V.bool (decide (((dv n f) * (dv q h)).num < 0))), (N ((((dv n f) * (dv q h)).num).natAbs)), (N (((dv n f) * (dv q h)).den))]).length) && (true && true)) = true) (aI (r11_Enclose4 ((dv m ee) * (dv p g)) ((dv m ee) * (dv q h)) ((dv n f) * (dv p g)) ((dv n f) * (dv q h)) w oA oA oA oA oA oA oA oA oA) (have f1 := en_facts (qmin (qmin (qmin ((dv m ee) * (dv p g)) ((dv m ee) * (dv q h))) ((dv n f) * (dv p g))) ((dv n f) * (dv q h))) (qmax (qmax (qmax ((dv m ee) * (dv p g)) ((dv m ee) * (dv q h))) ((dv n f) * (dv p g))) ((dv n f) * (dv q h))) w; (vsub_of (by first | rfl | simp_all) : vsub (enV (qmin (qmin (qmin ((dv m ee) * (dv p g)) ((dv m ee) * (dv q h))) ((dv n f) * (dv p g))) ((dv n f) * (dv q h))) (qmax (qmax (qmax ((dv m ee) * (dv p g)) ((dv m ee) * (dv q h))) ((dv n f) * (dv p g))) ((dv n f) * (dv q h))) w) (enV (mlLo m ee n f p g q h) (mlHi m ee n f p g q h) w)))))))))) (by kernel_rfl))


end Go.Proofs.YtmbpoibhamlkbaaGreatDoor

namespace Go.Proofs.YtmbpoibhamlkbaaGreatDoor
open Go.RowKit
set_option maxRecDepth 100000

theorem mill_Mod (v : Int) (n : Int) (c0 : (0 : Int) < n ∧ n ≤ 1000000000) (c1 : (-9223372036854775808 : Int) ≤ v ∧ v ≤ 9223372036854775807) : Impl Tryz.prog Amb 31 [(.int .i64 v), (.int .i64 n)] (.int .i64 (v % n)) := by
  have r0 := wRem_abs (v := v) (n := n) oO
  exact impl_ob hP hAmb Tryz.func31 (by kernel_rfl) (.yes <| .lit <| .both (.lit <| .yes <| .lit <| .ret) (.lit <| .ret))
    (cast_ob (aI True.intro (aI (iNe_mk oA : (iNe n 0) = true) (aI (fun (h1 : (iLt (wRem v n) 0) = true) => have _gh1 := iLt_t h1; aI (fits_i64 oA : (fits .i64 ((wRem v n) + n)) = true) ((vsub_of (congrArg (V.int .i64) (mod_neg oO oO)) : vsub (.int .i64 ((wRem v n) + n)) (.int .i64 (v % n))))) (fun (h2 : (iLt (wRem v n) 0) = false) => have _gh2 := iLt_f h2; (vsub_of (congrArg (V.int .i64) (mod_pos oO oO)) : vsub (.int .i64 (wRem v n)) (.int .i64 (v % n))))))) (by kernel_rfl))

theorem mill_Int (b : Bool) (l : List Nat) (n : Int) (c0 : Dig l) (c1 : l.length ≤ 9223372036854775807) (c2 : (0 : Int) ≤ n ∧ n ≤ 1000) : Impl Tryz.prog Amb 86 [(.agg [(.bool b), (.sl 1 (U l))]), (.int .i64 n)] (.tup [(zV (rawI b l n)), (.bool (decide ((l.length : Int) ≤ n)))]) := by
  have e0 := U_len l
  exact impl_ob hP hAmb Tryz.func86 (by kernel_rfl) (.lits 2 <| .both (.lits 3 <| .ret) (.lits 3 <| .call (zV (sgn b (val l))) <| .lits 2 <| .ret))
    (cast_ob (aI True.intro (aI (fun (h1 : (iGt ((U l).length : Int) n) = true) => have _gh1 := iGt_t h1; (raw_ret1 oO : vsub (.tup [(.agg [(.bool false), .nil]), (.bool false)]) (.tup [(zV (rawI b l n)), (.bool (decide ((l.length : Int) ≤ n)))]))) (fun (h2 : (iGt ((U l).length : Int) n) = false) => have _gh2 := iGt_f h2; aI (r05_NatC b (U l) l rfl c0 oO) (have f4 := L_val ‹Dig l›; have f3 := L_sgn b (val l); (raw_ret2 oO : vsub (.tup [(zV (sgn b (val l))), (.bool true)]) (.tup [(zV (rawI b l n)), (.bool (decide ((l.length : Int) ≤ n)))])))))) (by kernel_rfl))

theorem mill_Dyadic (b : Bool) (l : List Nat) (e : Int) (n : Int) (k : Int) (c0 : Dig l) (c1 : l.length ≤ 9223372036854775807) (c2 : (-9223372036854775808 : Int) ≤ e ∧ e ≤ 9223372036854775807) (c3 : (0 : Int) ≤ n ∧ n ≤ 800) (c4 : (0 : Int) ≤ k ∧ k ≤ 20000) : Impl Tryz.prog Amb 39 [(.agg [(.bool b), (.sl 1 (U l)), (.int .i64 e)]), (.int .i64 n), (.int .i64 k)] (.tup [(yV (mkM (rawI b l n) (e % (2 * k + 1) - k)) (mkX (rawI b l n) (e % (2 * k + 1) - k))), (.bool (decide ((l.length : Int) ≤ n)))]) := by
  have ej := Int.emod_nonneg e (show (2 * k + 1 : Int) ≠ 0 by omega)
  have ek := Int.emod_lt_of_pos e (show (0 : Int) < 2 * k + 1 by omega)
  exact impl_ob hP hAmb Tryz.func39 (by kernel_rfl) (.lits 2 <| .call (.tup [(zV (rawI b l n)), (.bool (decide ((l.length : Int) ≤ n)))]) <| .lits 2 <| .both (.lits 3 <| .ret) (.lits 3 <| .yes <| .lit <| .yes <| .lit <| .call (.int .i64 (e % (((2 : Int) * k) + 1))) <| .lit <| .yes <| .lit <| .call (.tup [(yV (mkM (rawI b l n) ((e % (((2 : Int) * k) + 1)) - k)) (mkX (rawI b l n) ((e % (((2 : Int) * k) + 1)) - k))), (.int .i64 (mkE (rawI b l n) ((e % (((2 : Int) * k) + 1)) - k)))]) <| .lits 4 <| .ret))
    (cast_ob (aI True.intro (aI (mill_Int b l n oA oA oA) (have f6 := (rawI_L (b := b) ‹Dig l› (show (0 : Int) ≤ n by first | omega | (simp <;> omega))); aI (fun (h1 : (!(decide ((l.length : Int) ≤ n))) = true) => have _gh1 := of_decide_eq_false (notb_t h1); (rawd_ret1 oO : vsub (.tup [(.agg [(.bool false), .nil, (.int .i64 0)]), (.bool false)]) (.tup [(yV (mkM (rawI b l n) (e % (2 * k + 1) - k)) (mkX (rawI b l n) (e % (2 * k + 1) - k))), (.bool (decide ((l.length : Int) ≤ n)))]))) (fun (h2 : (!(decide ((l.length : Int) ≤ n))) = false) => have _gh2 := of_decide_eq_true (notb_f h2); aI (fits_i64 oA : (fits .i64 ((2 : Int) * k)) = true) (aI (fits_i64 oA : (fits .i64 (((2 : Int) * k) + 1)) = true) (aI (mill_Mod e (((2 : Int) * k) + 1) oA oA) (have f5 := Int.emod_lt_of_pos e (show (0 : Int) < (((2 : Int) * k) + 1) by first | omega | (simp <;> omega)); have f4 := Int.emod_nonneg e (show ((((2 : Int) * k) + 1) : Int) ≠ 0 by first | omega | (simp <;> omega)); aI (fits_i64 oA : (fits .i64 ((e % (((2 : Int) * k) + 1)) - k)) = true) (aI (r08_Make (rawI b l n) ((e % (((2 : Int) * k) + 1)) - k) oA oA) (have f3 := mk_facts (rawI b l n) ((e % (((2 : Int) * k) + 1)) - k); (vsub_tup2 (vsub_refl _) (vsub_of (congrArg V.bool (rawd_ok (mk_fine2 oO oO) oO))) : vsub (.tup [(yV (mkM (rawI b l n) ((e % (((2 : Int) * k) + 1)) - k)) (mkX (rawI b l n) ((e % (((2 : Int) * k) + 1)) - k))), (.bool (iEq (mkE (rawI b l n) ((e % (((2 : Int) * k) + 1)) - k)) 0))]) (.tup [(yV (mkM (rawI b l n) (e % (2 * k + 1) - k)) (mkX (rawI b l n) (e % (2 * k + 1) - k))), (.bool (decide ((l.length : Int) ≤ n)))]))))))))))) (by kernel_rfl))

end Go.Proofs.YtmbpoibhamlkbaaGreatDoor

namespace Go.Proofs.YtmbpoibhamlkbaaGreatDoor

theorem mkX_b {m e : Int} (hE : mkE m e = 0) : (m = 0 ∧ mkX m e = 0) ∨ (m ≠ 0 ∧ e ≤ mkX m e ∧ mkX m e ≤ e + 32 * (L m.natAbs : Int)) := by
  rcases mk_cases hE with ⟨h, _, k⟩ | ⟨h, _, k, _⟩
  · exact .inl ⟨h, k⟩
  · have := tz_L m.natAbs
    refine .inr ⟨h, ?_, ?_⟩ <;> rw [k] <;> unfold de <;> omega
theorem mk_fit {m e : Int} (h : L m.natAbs ≤ 900) (he : -60000 ≤ e ∧ e ≤ 30000) : mkE m e = 0 ∧ L (mkM m e).natAbs ≤ L m.natAbs ∧ iMin e 0 ≤ mkX m e ∧ mkX m e ≤ iMax e 0 + 32 * (L m.natAbs : Int) ∧ vdb (mkM m e) (mkX m e) = true ∧ dv (mkM m e) (mkX m e) = dv m e := by
  have hE := mk_fine2 h he
  have h1 := mk_facts m e
  have h2 := iMin_range e 0
  have h3 : e ≤ iMax e 0 ∧ 0 ≤ iMax e 0 := by unfold iMax; split <;> omega
  refine ⟨hE, h1.1, ?_, ?_, vdb_mk, dv_mk hE⟩ <;> rcases mkX_b hE with ⟨_, k⟩ | ⟨_, k, l⟩ <;> omega
theorem of_fit {n : Int} (h : -9223372036854775808 ≤ n ∧ n ≤ 9223372036854775807) : mkE n 0 = 0 ∧ L (mkM n 0).natAbs ≤ 2 ∧ 0 ≤ mkX n 0 ∧ mkX n 0 ≤ 64 ∧ vdb (mkM n 0) (mkX n 0) = true ∧ dv (mkM n 0) (mkX n 0) = (n : Rat) := by
  have hl := L_i64 h
  have h1 := mk_fit (m := n) (e := 0) (by omega) (by omega)
  have h2 : iMin 0 0 = 0 := rfl
  have h3 : iMax 0 0 = 0 := rfl
  rw [h2, h3, dv_int] at h1
  exact ⟨h1.1, by omega, h1.2.2.1, by omega, h1.2.2.2.2.1, h1.2.2.2.2.2⟩
theorem ad_fine {m e n f : Int} (hm : L m.natAbs ≤ 300) (hn : L n.natAbs ≤ 300) (he : -4000 ≤ e ∧ e ≤ 4000) (hf : -4000 ≤ f ∧ f ≤ 4000) : mkE (adS m e n f) (iMin e f) = 0 := by
  have h0 := iMin_range e f
  have h1 := L_abs_shl m (e - iMin e f).toNat
  have h2 := L_abs_shl n (f - iMin e f).toNat
  have h3 := L_abs_add (m * 2 ^ (e - iMin e f).toNat) (n * 2 ^ (f - iMin e f).toNat)
  exact mk_fine2 (by unfold adS; omega) (by omega)
theorem ml_fine {m e n f : Int} (hm : L m.natAbs ≤ 400) (hn : L n.natAbs ≤ 400) (he : -20000 ≤ e ∧ e ≤ 14000) (hf : -20000 ≤ f ∧ f ≤ 14000) : mkE (m * n) (e + f) = 0 := by
  have h1 := L_abs_mul m n
  exact mk_fine2 (by omega) (by omega)
theorem en_vdb (lo hi : Rat) (w : Int) : vdb (enM lo hi w) (enX lo hi w) = true ∧ vdb (enN lo hi w) (enF lo hi w) = true := by
  by_cases h : enE lo hi w = 0
  · obtain ⟨a, b, c, d⟩ := en_yes h
    rw [a, b, c, d]; exact ⟨vdb_mk, vdb_mk⟩
  · have e : enM lo hi w = 0 ∧ enX lo hi w = 0 ∧ enN lo hi w = 0 ∧ enF lo hi w = 0 := by
      refine ⟨?_, ?_, ?_, ?_⟩ <;> (first | unfold enM | unfold enX | unfold enN | unfold enF) <;> rw [if_neg h]
    rw [e.1, e.2.1, e.2.2.1, e.2.2.2]; exact ⟨rfl, rfl⟩
end Go.Proofs.YtmbpoibhamlkbaaGreatDoor

namespace Go.Proofs.YtmbpoibhamlkbaaGreatDoor

theorem nbits_ge (a : Nat) : 32 * L a ≤ nbits a + 32 := by
  have h : L a ≤ nbits a / 32 + 1 := L_le (by
    rw [B_pow]
    exact Nat.lt_of_lt_of_le (nbits_lt a) (Nat.pow_le_pow_right (by omega) (by omega)))
  omega
theorem endB_sz {m e : Int} (h : endB m e = true) : L m.natAbs ≤ 400 ∧ (m = 0 ∨ -8192 ≤ e ∧ e ≤ 2048) := by
  unfold endB onB topD at h
  simp only [Bool.and_eq_true, decide_eq_true_eq] at h
  obtain ⟨h1, _, h2⟩ := h
  have h3 := nbits_ge m.natAbs
  by_cases hm : m = 0
  · subst hm
    exact ⟨by have : L (0 : Int).natAbs = 0 := L_zero
              omega, .inl rfl⟩
  · rw [if_neg hm] at h1
    have := nbits_pos (show m.natAbs ≠ 0 by omega)
    exact ⟨by omega, .inr (by omega)⟩
theorem en_sz (lo hi : Rat) (w : Int) : L (enM lo hi w).natAbs ≤ 400 ∧ L (enN lo hi w).natAbs ≤ 400 ∧ (-8192 ≤ enX lo hi w ∧ enX lo hi w ≤ 2048) ∧ (-8192 ≤ enF lo hi w ∧ enF lo hi w ≤ 2048) := by
  by_cases h : enE lo hi w = 0
  · have hs : smB (enM lo hi w) (enX lo hi w) (enN lo hi w) (enF lo hi w) = true := by
      obtain ⟨a, b, c, d⟩ := en_yes h
      rw [a, b, c, d]
      unfold enE at h
      split at h
      · unfold ecE at h
        split at h
        · rename_i q; exact q.2.2
        · omega
      · omega
    have hv := en_vdb lo hi w
    unfold smB at hs
    simp only [Bool.and_eq_true] at hs
    have h1 := endB_sz hs.1.2
    have h2 := endB_sz hs.2
    refine ⟨h1.1, h2.1, ?_, ?_⟩
    · rcases h1.2 with k | k
      · have := hv.1; rw [k] at this; unfold vdb at this; rw [if_pos rfl] at this; have := of_decide_eq_true this; omega
      · exact k
    · rcases h2.2 with k | k
      · have := hv.2; rw [k] at this; unfold vdb at this; rw [if_pos rfl] at this; have := of_decide_eq_true this; omega
      · exact k
  · have e : enM lo hi w = 0 ∧ enX lo hi w = 0 ∧ enN lo hi w = 0 ∧ enF lo hi w = 0 := by
      refine ⟨?_, ?_, ?_, ?_⟩ <;> (first | unfold enM | unfold enX | unfold enN | unfold enF) <;> rw [if_neg h]
    rw [e.1, e.2.1, e.2.2.1, e.2.2.2]
    have : L (0 : Int).natAbs = 0 := L_zero
    omega
theorem dq_sz (m e n f p g q h w : Int) :
    L (dqV (enM (dvLo m e n f p g q h) (dvHi m e n f p g q h) w) m e n f p g q h w).natAbs ≤ 400 ∧
    L (dqV (enN (dvLo m e n f p g q h) (dvHi m e n f p g q h) w) m e n f p g q h w).natAbs ≤ 400 := by
  have h1 := en_sz (dvLo m e n f p g q h) (dvHi m e n f p g q h) w
  have h2 := dq_L m e n f p g q h w
  omega
theorem not_of' {b : Bool} (h : b = true) : (!b) = false := by rw [h]; rfl
end Go.Proofs.YtmbpoibhamlkbaaGreatDoor

namespace Go.Proofs.YtmbpoibhamlkbaaGreatDoor
theorem oM {p : Prop} (h : p := by first | omega | exact ml_fine (by omega) (by omega) (by omega) (by omega) | exact ad_fine (by omega) (by omega) (by omega) (by omega) | exact (en_vdb _ _ _).1 | exact (en_vdb _ _ _).2) : p := h
theorem oD {p : Prop} (h : p := by first | omega | exact ml_fine (by omega) (by omega) (by omega) (by omega) | exact ad_fine (by omega) (by omega) (by omega) (by omega) | exact (en_vdb _ _ _).1 | exact (en_vdb _ _ _).2 | decide) : p := h
theorem oN {p : Prop} (h : p := by first | omega | exact ml_fine (by omega) (by omega) (by omega) (by omega) | exact ad_fine (by omega) (by omega) (by omega) (by omega) | exact (en_vdb _ _ _).1 | exact (en_vdb _ _ _).2 | assumption) : p := h
theorem oN2 {p : Prop} (h : p := by first | omega | exact ml_fine (by omega) (by omega) (by omega) (by omega) | exact ad_fine (by omega) (by omega) (by omega) (by omega) | exact (en_vdb _ _ _).1 | exact (en_vdb _ _ _).2 | assumption | exact ad_fine (by omega) (by omega) (by omega) (by omega)) : p := h
end Go.Proofs.YtmbpoibhamlkbaaGreatDoor

namespace Go.Proofs.YtmbpoibhamlkbaaGreatDoor
open Go.RowKit
set_option maxRecDepth 100000

theorem l11_of (a : Int) (b : Int) (c0 : (-9223372036854775808 : Int) ≤ a ∧ a ≤ 9223372036854775807) (c1 : (-9223372036854775808 : Int) ≤ b ∧ b ≤ 9223372036854775807) : Impl Tryz.prog Amb 19 [(.int .i64 a), (.int .i64 b)] (wV (mkM a 0) (mkX a 0) (mkM b 0) (mkX b 0)) := by
  exact impl_ob hP hAmb Tryz.func19 (by kernel_rfl) (.lit <| .call (yV (mkM a 0) (mkX a 0)) <| .lit <| .call (yV (mkM b 0) (mkX b 0)) <| .lits 3 <| .ret)
    (cast_ob (aI True.intro (aI (r08_Of a oA) (have f14 := (of_fit (n := a) oA).2.2.2.2.1; have f13 := (of_fit (n := a) oA).2.2.2.1; have f12 := (of_fit (n := a) oA).2.2.1; have f11 := (of_fit (n := a) oA).2.1; have f10 := (of_fit (n := a) oA).1; have f9 := (L_i64 oA : L (a : Int).natAbs ≤ 2); have f8 := mk_facts a 0; aI (r08_Of b oA) (have f7 := (of_fit (n := b) oA).2.2.2.2.1; have f6 := (of_fit (n := b) oA).2.2.2.1; have f5 := (of_fit (n := b) oA).2.2.1; have f4 := (of_fit (n := b) oA).2.1; have f3 := (of_fit (n := b) oA).1; have f2 := (L_i64 oA : L (b : Int).natAbs ≤ 2); have f1 := mk_facts b 0; (vsub_refl (wV (mkM a 0) (mkX a 0) (mkM b 0) (mkX b 0))))))) (by kernel_rfl))

theorem l11_awake : Impl Tryz.prog Amb 15 [] (.bool true) := by
  exact impl_ob hP hAmb Tryz.func15 (by kernel_rfl) (.lit <| .call (.agg [(.bool (decide ((Int.cast 1 : Rat).num < 0))), (N (((Int.cast 1 : Rat).num).natAbs)), (N ((Int.cast 1 : Rat).den))]) <| .lit <| .call (.agg [(.bool (decide ((Int.cast 3 : Rat).num < 0))), (N (((Int.cast 3 : Rat).num).natAbs)), (N ((Int.cast 3 : Rat).den))]) <| .lit <| .call (.tup [(.agg [(.bool (decide (((Int.cast 1 : Rat) / (Int.cast 3 : Rat)).num < 0))), (N ((((Int.cast 1 : Rat) / (Int.cast 3 : Rat)).num).natAbs)), (N (((Int.cast 1 : Rat) / (Int.cast 3 : Rat)).den))]), (.int .i64 0)]) <| .lits 3 <| .call (enV ((Int.cast 1 : Rat) / (Int.cast 3 : Rat)) ((Int.cast 1 : Rat) / (Int.cast 3 : Rat)) 2) <| .lits 2 <| .call (wV (mkM 1 0) (mkX 1 0) (mkM 1 0) (mkX 1 0)) <| .lit <| .call (wV (mkM 0 0) (mkX 0 0) (mkM 1 0) (mkX 1 0)) <| .lit <| .call (dqT (mkM 1 0) (mkX 1 0) (mkM 1 0) (mkX 1 0) (mkM 0 0) (mkX 0 0) (mkM 1 0) (mkX 1 0) 5) <| .lits 2 <| .call (wV (mkM 1 0) (mkX 1 0) (mkM 1 0) (mkX 1 0)) <| .lit <| .call (wV (mkM 0 0) (mkX 0 0) (mkM 0 0) (mkX 0 0)) <| .lit <| .call (dqT (mkM 1 0) (mkX 1 0) (mkM 1 0) (mkX 1 0) (mkM 0 0) (mkX 0 0) (mkM 0 0) (mkX 0 0) 5) <| .lits 2 <| .call (wV (mkM (-1) 0) (mkX (-1) 0) (mkM 2 0) (mkX 2 0)) <| .lit <| .call (wV (mkM 3 0) (mkX 3 0) (mkM 4 0) (mkX 4 0)) <| .lit <| .call (enV (mlLo (mkM (-1) 0) (mkX (-1) 0) (mkM 2 0) (mkX 2 0) (mkM 3 0) (mkX 3 0) (mkM 4 0) (mkX 4 0)) (mlHi (mkM (-1) 0) (mkX (-1) 0) (mkM 2 0) (mkX 2 0) (mkM 3 0) (mkX 3 0) (mkM 4 0) (mkX 4 0)) 0) <| .lits 3 <| .call (enV ((Int.cast 1 : Rat) / (Int.cast 3 : Rat)) ((Int.cast 1 : Rat) / (Int.cast 3 : Rat)) 2) <| .lits 2 <| .yes <| .lits 5 <| .call (.bool (decide (((enX ((Int.cast 1 : Rat) / (Int.cast 3 : Rat)) ((Int.cast 1 : Rat) / (Int.cast 3 : Rat)) 2) = (enX ((Int.cast 1 : Rat) / (Int.cast 3 : Rat)) ((Int.cast 1 : Rat) / (Int.cast 3 : Rat)) 2) ∧ (enM ((Int.cast 1 : Rat) / (Int.cast 3 : Rat)) ((Int.cast 1 : Rat) / (Int.cast 3 : Rat)) 2) = (enM ((Int.cast 1 : Rat) / (Int.cast 3 : Rat)) ((Int.cast 1 : Rat) / (Int.cast 3 : Rat)) 2)) ∧ ((enF ((Int.cast 1 : Rat) / (Int.cast 3 : Rat)) ((Int.cast 1 : Rat) / (Int.cast 3 : Rat)) 2) = (enF ((Int.cast 1 : Rat) / (Int.cast 3 : Rat)) ((Int.cast 1 : Rat) / (Int.cast 3 : Rat)) 2) ∧ (enN ((Int.cast 1 : Rat) / (Int.cast 3 : Rat)) ((Int.cast 1 : Rat) / (Int.cast 3 : Rat)) 2) = (enN ((Int.cast 1 : Rat) / (Int.cast 3 : Rat)) ((Int.cast 1 : Rat) / (Int.cast 3 : Rat)) 2))))) <| .lit <| .yes <| .lits 3 <| .yes <| .lits 3 <| .yes <| .lits 3 <| .yes <| .lits 3 <| .call (wV (mkM (-4) 0) (mkX (-4) 0) (mkM 8 0) (mkX 8 0)) <| .lits 2 <| .call (.bool (decide (((enX (mlLo (mkM (-1) 0) (mkX (-1) 0) (mkM 2 0) (mkX 2 0) (mkM 3 0) (mkX 3 0) (mkM 4 0) (mkX 4 0)) (mlHi (mkM (-1) 0) (mkX (-1) 0) (mkM 2 0) (mkX 2 0) (mkM 3 0) (mkX 3 0) (mkM 4 0) (mkX 4 0)) 0) = (mkX (-4) 0) ∧ (enM (mlLo (mkM (-1) 0) (mkX (-1) 0) (mkM 2 0) (mkX 2 0) (mkM 3 0) (mkX 3 0) (mkM 4 0) (mkX 4 0)) (mlHi (mkM (-1) 0) (mkX (-1) 0) (mkM 2 0) (mkX 2 0) (mkM 3 0) (mkX 3 0) (mkM 4 0) (mkX 4 0)) 0) = (mkM (-4) 0)) ∧ ((enF (mlLo (mkM (-1) 0) (mkX (-1) 0) (mkM 2 0) (mkX 2 0) (mkM 3 0) (mkX 3 0) (mkM 4 0) (mkX 4 0)) (mlHi (mkM (-1) 0) (mkX (-1) 0) (mkM 2 0) (mkX 2 0) (mkM 3 0) (mkX 3 0) (mkM 4 0) (mkX 4 0)) 0) = (mkX 8 0) ∧ (enN (mlLo (mkM (-1) 0) (mkX (-1) 0) (mkM 2 0) (mkX 2 0) (mkM 3 0) (mkX 3 0) (mkM 4 0) (mkX 4 0)) (mlHi (mkM (-1) 0) (mkX (-1) 0) (mkM 2 0) (mkX 2 0) (mkM 3 0) (mkX 3 0) (mkM 4 0) (mkX 4 0)) 0) = (mkM 8 0))))) <| .lits 2 <| .ret)
    (cast_ob (aI True.intro (aI (r07_Of 1 oD) (have f111 := (q_ofL oD : L (Int.cast 1 : Rat).num.natAbs ≤ 2 ∧ L (Int.cast 1 : Rat).den ≤ 1); aI (r07_Of 3 oD) (have f110 := (q_ofL oD : L (Int.cast 3 : Rat).num.natAbs ≤ 2 ∧ L (Int.cast 3 : Rat).den ≤ 1); aI (r07_Div (Int.cast 1 : Rat) (Int.cast 3 : Rat) oD oD oD oD oD) (have f109 := q_divL (r := (Int.cast 1 : Rat)) (show (Int.cast 3 : Rat) ≠ 0 by first | assumption | omega | decide); aI (ar_Const ((Int.cast 1 : Rat) / (Int.cast 3 : Rat)) 2 oD oD oD) (have f108 := en_sz ((Int.cast 1 : Rat) / (Int.cast 3 : Rat)) ((Int.cast 1 : Rat) / (Int.cast 3 : Rat)) 2; have f107 := en_facts ((Int.cast 1 : Rat) / (Int.cast 3 : Rat)) ((Int.cast 1 : Rat) / (Int.cast 3 : Rat)) 2; aI (l11_of 1 1 oD oD) (have f106 := (of_fit (n := 1) oD).2.2.2.2.1; have f105 := (of_fit (n := 1) oD).2.2.2.1; have f104 := (of_fit (n := 1) oD).2.2.1; have f103 := (of_fit (n := 1) oD).2.1; have f102 := (of_fit (n := 1) oD).1; have f101 := (L_i64 oD : L (1 : Int).natAbs ≤ 2); have f100 := mk_facts 1 0; have f99 := (of_fit (n := 1) oD).2.2.2.2.1; have f98 := (of_fit (n := 1) oD).2.2.2.1; have f97 := (of_fit (n := 1) oD).2.2.1; have f96 := (of_fit (n := 1) oD).2.1; have f95 := (of_fit (n := 1) oD).1; have f94 := (L_i64 oD : L (1 : Int).natAbs ≤ 2); have f93 := mk_facts 1 0; aI (l11_of 0 1 oD oD) (have f92 := (of_fit (n := 1) oD).2.2.2.2.1; have f91 := (of_fit (n := 1) oD).2.2.2.1; have f90 := (of_fit (n := 1) oD).2.2.1; have f89 := (of_fit (n := 1) oD).2.1; have f88 := (of_fit (n := 1) oD).1; have f87 := (L_i64 oD : L (1 : Int).natAbs ≤ 2); have f86 := mk_facts 1 0; have f85 := (of_fit (n := 0) oD).2.2.2.2.1; have f84 := (of_fit (n := 0) oD).2.2.2.1; have f83 := (of_fit (n := 0) oD).2.2.1; have f82 := (of_fit (n := 0) oD).2.1; have f81 := (of_fit (n := 0) oD).1; have f80 := (L_i64 oD : L (0 : Int).natAbs ≤ 2); have f79 := mk_facts 0 0; aI (ar_Div (mkM 1 0) (mkX 1 0) (mkM 1 0) (mkX 1 0) (mkM 0 0) (mkX 0 0) (mkM 1 0) (mkX 1 0) 5 oD oD oD oD oD oD oD oD oD) (have f78 := dq_sz (mkM 1 0) (mkX 1 0) (mkM 1 0) (mkX 1 0) (mkM 0 0) (mkX 0 0) (mkM 1 0) (mkX 1 0) 5; have f77 := dq_L (mkM 1 0) (mkX 1 0) (mkM 1 0) (mkX 1 0) (mkM 0 0) (mkX 0 0) (mkM 1 0) (mkX 1 0) 5; aI (l11_of 1 1 oD oD) (have f76 := (of_fit (n := 1) oD).2.2.2.2.1; have f75 := (of_fit (n := 1) oD).2.2.2.1; have f74 := (of_fit (n := 1) oD).2.2.1; have f73 := (of_fit (n := 1) oD).2.1; have f72 := (of_fit (n := 1) oD).1; have f71 := (L_i64 oD : L (1 : Int).natAbs ≤ 2); have f70 := mk_facts 1 0; have f69 := (of_fit (n := 1) oD).2.2.2.2.1; have f68 := (of_fit (n := 1) oD).2.2.2.1; have f67 := (of_fit (n := 1) oD).2.2.1; have f66 := (of_fit (n := 1) oD).2.1; have f65 := (of_fit (n := 1) oD).1; have f64 := (L_i64 oD : L (1 : Int).natAbs ≤ 2); have f63 := mk_facts 1 0; aI (l11_of 0 0 oD oD) (have f62 := (of_fit (n := 0) oD).2.2.2.2.1; have f61 := (of_fit (n := 0) oD).2.2.2.1; have f60 := (of_fit (n := 0) oD).2.2.1; have f59 := (of_fit (n := 0) oD).2.1; have f58 := (of_fit (n := 0) oD).1; have f57 := (L_i64 oD : L (0 : Int).natAbs ≤ 2); have f56 := mk_facts 0 0; have f55 := (of_fit (n := 0) oD).2.2.2.2.1; have f54 := (of_fit (n := 0) oD).2.2.2.1; have f53 := (of_fit (n := 0) oD).2.2.1; have f52 := (of_fit (n := 0) oD).2.1; have f51 := (of_fit (n := 0) oD).1; have f50 := (L_i64 oD : L (0 : Int).natAbs ≤ 2); have f49 := mk_facts 0 0; aI (ar_Div (mkM 1 0) (mkX 1 0) (mkM 1 0) (mkX 1 0) (mkM 0 0) (mkX 0 0) (mkM 0 0) (mkX 0 0) 5 oD oD oD oD oD oD oD oD oD) (have f48 := dq_sz (mkM 1 0) (mkX 1 0) (mkM 1 0) (mkX 1 0) (mkM 0 0) (mkX 0 0) (mkM 0 0) (mkX 0 0) 5; have f47 := dq_L (mkM 1 0) (mkX 1 0) (mkM 1 0) (mkX 1 0) (mkM 0 0) (mkX 0 0) (mkM 0 0) (mkX 0 0) 5; aI (l11_of (-1) 2 oD oD) (have f46 := (of_fit (n := 2) oD).2.2.2.2.1; have f45 := (of_fit (n := 2) oD).2.2.2.1; have f44 := (of_fit (n := 2) oD).2.2.1; have f43 := (of_fit (n := 2) oD).2.1; have f42 := (of_fit (n := 2) oD).1; have f41 := (L_i64 oD : L (2 : Int).natAbs ≤ 2); have f40 := mk_facts 2 0; have f39 := (of_fit (n := -1) oD).2.2.2.2.1; have f38 := (of_fit (n := -1) oD).2.2.2.1; have f37 := (of_fit (n := -1) oD).2.2.1; have f36 := (of_fit (n := -1) oD).2.1; have f35 := (of_fit (n := -1) oD).1; have f34 := (L_i64 oD : L (-1 : Int).natAbs ≤ 2); have f33 := mk_facts (-1) 0; aI (l11_of 3 4 oD oD) (have f32 := (of_fit (n := 4) oD).2.2.2.2.1; have f31 := (of_fit (n := 4) oD).2.2.2.1; have f30 := (of_fit (n := 4) oD).2.2.1; have f29 := (of_fit (n := 4) oD).2.1; have f28 := (of_fit (n := 4) oD).1; have f27 := (L_i64 oD : L (4 : Int).natAbs ≤ 2); have f26 := mk_facts 4 0; have f25 := (of_fit (n := 3) oD).2.2.2.2.1; have f24 := (of_fit (n := 3) oD).2.2.2.1; have f23 := (of_fit (n := 3) oD).2.2.1; have f22 := (of_fit (n := 3) oD).2.1; have f21 := (of_fit (n := 3) oD).1; have f20 := (L_i64 oD : L (3 : Int).natAbs ≤ 2); have f19 := mk_facts 3 0; aI (ar_Mul (mkM (-1) 0) (mkX (-1) 0) (mkM 2 0) (mkX 2 0) (mkM 3 0) (mkX 3 0) (mkM 4 0) (mkX 4 0) 0 oD oD oD oD oD oD oD oD oD oD oD oD oD) (have f18 := en_sz (mlLo (mkM (-1) 0) (mkX (-1) 0) (mkM 2 0) (mkX 2 0) (mkM 3 0) (mkX 3 0) (mkM 4 0) (mkX 4 0)) (mlHi (mkM (-1) 0) (mkX (-1) 0) (mkM 2 0) (mkX 2 0) (mkM 3 0) (mkX 3 0) (mkM 4 0) (mkX 4 0)) 0; have f17 := en_facts (mlLo (mkM (-1) 0) (mkX (-1) 0) (mkM 2 0) (mkX 2 0) (mkM 3 0) (mkX 3 0) (mkM 4 0) (mkX 4 0)) (mlHi (mkM (-1) 0) (mkX (-1) 0) (mkM 2 0) (mkX 2 0) (mkM 3 0) (mkX 3 0) (mkM 4 0) (mkX 4 0)) 0; aI (r11_Const ((Int.cast 1 : Rat) / (Int.cast 3 : Rat)) 2 oD oD oD) (have f16 := en_sz ((Int.cast 1 : Rat) / (Int.cast 3 : Rat)) ((Int.cast 1 : Rat) / (Int.cast 3 : Rat)) 2; have f15 := en_facts ((Int.cast 1 : Rat) / (Int.cast 3 : Rat)) ((Int.cast 1 : Rat) / (Int.cast 3 : Rat)) 2; aI ((by kernel_rfl) : (iEq (enE ((Int.cast 1 : Rat) / (Int.cast 3 : Rat)) ((Int.cast 1 : Rat) / (Int.cast 3 : Rat)) 2) 0) = true) (aI (r10_Same (enM ((Int.cast 1 : Rat) / (Int.cast 3 : Rat)) ((Int.cast 1 : Rat) / (Int.cast 3 : Rat)) 2) (enX ((Int.cast 1 : Rat) / (Int.cast 3 : Rat)) ((Int.cast 1 : Rat) / (Int.cast 3 : Rat)) 2) (enN ((Int.cast 1 : Rat) / (Int.cast 3 : Rat)) ((Int.cast 1 : Rat) / (Int.cast 3 : Rat)) 2) (enF ((Int.cast 1 : Rat) / (Int.cast 3 : Rat)) ((Int.cast 1 : Rat) / (Int.cast 3 : Rat)) 2) (enM ((Int.cast 1 : Rat) / (Int.cast 3 : Rat)) ((Int.cast 1 : Rat) / (Int.cast 3 : Rat)) 2) (enX ((Int.cast 1 : Rat) / (Int.cast 3 : Rat)) ((Int.cast 1 : Rat) / (Int.cast 3 : Rat)) 2) (enN ((Int.cast 1 : Rat) / (Int.cast 3 : Rat)) ((Int.cast 1 : Rat) / (Int.cast 3 : Rat)) 2) (enF ((Int.cast 1 : Rat) / (Int.cast 3 : Rat)) ((Int.cast 1 : Rat) / (Int.cast 3 : Rat)) 2) oD oD oD oD) (aI ((by kernel_rfl) : (decide (((enX ((Int.cast 1 : Rat) / (Int.cast 3 : Rat)) ((Int.cast 1 : Rat) / (Int.cast 3 : Rat)) 2) = (enX ((Int.cast 1 : Rat) / (Int.cast 3 : Rat)) ((Int.cast 1 : Rat) / (Int.cast 3 : Rat)) 2) ∧ (enM ((Int.cast 1 : Rat) / (Int.cast 3 : Rat)) ((Int.cast 1 : Rat) / (Int.cast 3 : Rat)) 2) = (enM ((Int.cast 1 : Rat) / (Int.cast 3 : Rat)) ((Int.cast 1 : Rat) / (Int.cast 3 : Rat)) 2)) ∧ ((enF ((Int.cast 1 : Rat) / (Int.cast 3 : Rat)) ((Int.cast 1 : Rat) / (Int.cast 3 : Rat)) 2) = (enF ((Int.cast 1 : Rat) / (Int.cast 3 : Rat)) ((Int.cast 1 : Rat) / (Int.cast 3 : Rat)) 2) ∧ (enN ((Int.cast 1 : Rat) / (Int.cast 3 : Rat)) ((Int.cast 1 : Rat) / (Int.cast 3 : Rat)) 2) = (enN ((Int.cast 1 : Rat) / (Int.cast 3 : Rat)) ((Int.cast 1 : Rat) / (Int.cast 3 : Rat)) 2)))) = true) (aI ((by kernel_rfl) : (iEq (dqE (mkM 1 0) (mkX 1 0) (mkM 1 0) (mkX 1 0) (mkM 0 0) (mkX 0 0) (mkM 1 0) (mkX 1 0) 5) 5) = true) (aI ((by kernel_rfl) : (iEq (dqE (mkM 1 0) (mkX 1 0) (mkM 1 0) (mkX 1 0) (mkM 0 0) (mkX 0 0) (mkM 0 0) (mkX 0 0) 5) 2) = true) (aI ((by kernel_rfl) : (iEq (enE (mlLo (mkM (-1) 0) (mkX (-1) 0) (mkM 2 0) (mkX 2 0) (mkM 3 0) (mkX 3 0) (mkM 4 0) (mkX 4 0)) (mlHi (mkM (-1) 0) (mkX (-1) 0) (mkM 2 0) (mkX 2 0) (mkM 3 0) (mkX 3 0) (mkM 4 0) (mkX 4 0)) 0) 0) = true) (aI (l11_of (-4) 8 oD oD) (have f14 := (of_fit (n := 8) oD).2.2.2.2.1; have f13 := (of_fit (n := 8) oD).2.2.2.1; have f12 := (of_fit (n := 8) oD).2.2.1; have f11 := (of_fit (n := 8) oD).2.1; have f10 := (of_fit (n := 8) oD).1; have f9 := (L_i64 oD : L (8 : Int).natAbs ≤ 2); have f8 := mk_facts 8 0; have f7 := (of_fit (n := -4) oD).2.2.2.2.1; have f6 := (of_fit (n := -4) oD).2.2.2.1; have f5 := (of_fit (n := -4) oD).2.2.1; have f4 := (of_fit (n := -4) oD).2.1; have f3 := (of_fit (n := -4) oD).1; have f2 := (L_i64 oD : L (-4 : Int).natAbs ≤ 2); have f1 := mk_facts (-4) 0; aI (r10_Same (enM (mlLo (mkM (-1) 0) (mkX (-1) 0) (mkM 2 0) (mkX 2 0) (mkM 3 0) (mkX 3 0) (mkM 4 0) (mkX 4 0)) (mlHi (mkM (-1) 0) (mkX (-1) 0) (mkM 2 0) (mkX 2 0) (mkM 3 0) (mkX 3 0) (mkM 4 0) (mkX 4 0)) 0) (enX (mlLo (mkM (-1) 0) (mkX (-1) 0) (mkM 2 0) (mkX 2 0) (mkM 3 0) (mkX 3 0) (mkM 4 0) (mkX 4 0)) (mlHi (mkM (-1) 0) (mkX (-1) 0) (mkM 2 0) (mkX 2 0) (mkM 3 0) (mkX 3 0) (mkM 4 0) (mkX 4 0)) 0) (enN (mlLo (mkM (-1) 0) (mkX (-1) 0) (mkM 2 0) (mkX 2 0) (mkM 3 0) (mkX 3 0) (mkM 4 0) (mkX 4 0)) (mlHi (mkM (-1) 0) (mkX (-1) 0) (mkM 2 0) (mkX 2 0) (mkM 3 0) (mkX 3 0) (mkM 4 0) (mkX 4 0)) 0) (enF (mlLo (mkM (-1) 0) (mkX (-1) 0) (mkM 2 0) (mkX 2 0) (mkM 3 0) (mkX 3 0) (mkM 4 0) (mkX 4 0)) (mlHi (mkM (-1) 0) (mkX (-1) 0) (mkM 2 0) (mkX 2 0) (mkM 3 0) (mkX 3 0) (mkM 4 0) (mkX 4 0)) 0) (mkM (-4) 0) (mkX (-4) 0) (mkM 8 0) (mkX 8 0) oD oD oD oD) ((vsub_of (congrArg V.bool (by kernel_rfl)) : vsub (.bool (decide (((enX (mlLo (mkM (-1) 0) (mkX (-1) 0) (mkM 2 0) (mkX 2 0) (mkM 3 0) (mkX 3 0) (mkM 4 0) (mkX 4 0)) (mlHi (mkM (-1) 0) (mkX (-1) 0) (mkM 2 0) (mkX 2 0) (mkM 3 0) (mkX 3 0) (mkM 4 0) (mkX 4 0)) 0) = (mkX (-4) 0) ∧ (enM (mlLo (mkM (-1) 0) (mkX (-1) 0) (mkM 2 0) (mkX 2 0) (mkM 3 0) (mkX 3 0) (mkM 4 0) (mkX 4 0)) (mlHi (mkM (-1) 0) (mkX (-1) 0) (mkM 2 0) (mkX 2 0) (mkM 3 0) (mkX 3 0) (mkM 4 0) (mkX 4 0)) 0) = (mkM (-4) 0)) ∧ ((enF (mlLo (mkM (-1) 0) (mkX (-1) 0) (mkM 2 0) (mkX 2 0) (mkM 3 0) (mkX 3 0) (mkM 4 0) (mkX 4 0)) (mlHi (mkM (-1) 0) (mkX (-1) 0) (mkM 2 0) (mkX 2 0) (mkM 3 0) (mkX 3 0) (mkM 4 0) (mkX 4 0)) 0) = (mkX 8 0) ∧ (enN (mlLo (mkM (-1) 0) (mkX (-1) 0) (mkM 2 0) (mkX 2 0) (mkM 3 0) (mkX 3 0) (mkM 4 0) (mkX 4 0)) (mlHi (mkM (-1) 0) (mkX (-1) 0) (mkM 2 0) (mkX 2 0) (mkM 3 0) (mkX 3 0) (mkM 4 0) (mkX 4 0)) 0) = (mkM 8 0))))) (.bool true)))))))))))))))))))))))))) (by kernel_rfl))

end Go.Proofs.YtmbpoibhamlkbaaGreatDoor


