/- BlobRefs, the walk. -/
import Derived.Test.YtkkikhbenhkfcaaDoorBlobAny
import Derived.Test.YtkkikhbenhkfcaaDoorBlobGet
import Derived.Test.YtkkikhbenhkfcaaDoorRefNum
import Derived.Deep.Cut
import Derived.Deep.CutRange
import Derived.Deep.DeepCutAuto
set_option linter.unusedVariables false
set_option linter.unusedSimpArgs false
namespace Go.Proofs.YtkkikhbenhkfcaaDoor.RowBlobRefs
open Go.Proofs.YtkkikhbenhkfcaaDoor.AdM (sum)
open Go.RowKit Go.Proofs.YtkkikhbenhkfcaaDoorW.PrintWords Go.Proofs.YtkkikhbenhkfcaaDoorW.PrintLast Go.Proofs.YtkkikhbenhkfcaaDoorW.PrintMore Go.Proofs.YtkkikhbenhkfcaaDoor.CdM Go.Proofs.YtkkikhbenhkfcaaDoor.Md Go.Proofs.YtkkikhbenhkfcaaDoor.Dk Go.Proofs.YtkkikhbenhkfcaaDoor.Blb Go.Proofs.YtkkikhbenhkfcaaDoor.Rdr Go.Proofs.YtkkikhbenhkfcaaDoor.Rfn
open Go.Extern.Stop (cell)
open Go.Proofs.YtkkikhbenhkfcaaDoor.Err (Laid IsErr code_nil code_c Chain at_some at_nil)
/-- what is kept all along: the place that came in, what lay below, the laid variable -/
structure Bs (W w : World) (B : Nat) (x y z : Int) : Prop where
  blk : w.heap[B]? = some (Obj.cells (refA x y z) 30 (0, 0))
  bel : Below W.heap.size W w
  laid : Laid w
theorem Bs.on {W w w' : World} {B : Nat} {x y z : Int} (h : Bs W w B x y z) (k : Below w.heap.size w w') : Bs W w' B x y z :=
  ⟨(k.block B (Err.lt_of_block h.blk)).trans h.blk, h.bel.trans (k.mono h.bel.size), h.laid.on k⟩
theorem Bs.c0 {W w : World} {B : Nat} {x y z : Int} (h : Bs W w B x y z) : w.cell? ⟨B, 0, none⟩ = some (.int .i64 x) := Err.cell_of_blk h.blk 0
theorem Bs.c1 {W w : World} {B : Nat} {x y z : Int} (h : Bs W w B x y z) : w.cell? ⟨B, 1, none⟩ = some (.int .i64 y) := Err.cell_of_blk h.blk 1
theorem Bs.c2 {W w : World} {B : Nat} {x y z : Int} (h : Bs W w B x y z) : w.cell? ⟨B, 2, none⟩ = some (.int .u32 z) := Err.cell_of_blk h.blk 2
theorem numX_in {x : Int} (h0 : 0 ≤ x) (h1 : x ≤ 4611686018427387904) : numX x = numS x.toNat := by unfold numX; exact if_pos ⟨h0, h1⟩
theorem numX_out {x : Int} (h : ¬ (0 ≤ x ∧ x ≤ 4611686018427387904)) : numX x = ⟨#[]⟩ := by unfold numX; exact if_neg h
theorem empty_app (s : ByteArray) : (⟨#[]⟩ : ByteArray) ++ s = s := ByteArray.empty_append
theorem app_empty (s : ByteArray) : s ++ (⟨#[]⟩ : ByteArray) = s := ByteArray.append_empty
theorem refself (x y z : Int) : (!(x == x && (y == y && (z == z)))) = false := by simp
def inB (x : Int) : Bool := decide (0 ≤ x ∧ x ≤ 4611686018427387904)
/-- the place is read as it was laid -/
theorem laid_read {w : World} {x y z : Int} {s : ByteArray} {v e : Value} (hx0 : 0 ≤ x) (hx1 : x ≤ 2048) (hy0 : 0 ≤ y) (hy1 : y ≤ 16384) (hz0 : 0 ≤ z) (hz1 : z ≤ 4294967295) (h : RefAt w (numS x.toNat ++ numS y.toNat ++ numS z.toNat ++ s) 0 v e) : v = .agg (refA x y z) ∧ e = .nilIface := by
  have s1 : Stands (numS x.toNat ++ numS y.toNat ++ numS z.toNat ++ s) 0 x.toNat := by
    have h := Rdr.stands_mid ⟨#[]⟩ (numS y.toNat ++ numS z.toNat ++ s) x.toNat
    rw [empty_app] at h
    have h0 : (⟨#[]⟩ : ByteArray).size = 0 := rfl
    rw [h0] at h
    simpa only [ByteArray.append_assoc] using h
  have s2 : Stands (numS x.toNat ++ numS y.toNat ++ numS z.toNat ++ s) (0 + (num x.toNat).length) y.toNat := by
    have h := Rdr.stands_mid (numS x.toNat) (numS z.toNat ++ s) y.toNat
    rw [numS_size] at h
    rw [Nat.zero_add]
    simpa only [ByteArray.append_assoc] using h
  have s3 : Stands (numS x.toNat ++ numS y.toNat ++ numS z.toNat ++ s) (0 + (num x.toNat).length + (num y.toNat).length) z.toNat := by
    have h := Rdr.stands_mid (numS x.toNat ++ numS y.toNat) s z.toNat
    rw [ByteArray.size_append, numS_size, numS_size] at h
    rw [Nat.zero_add]
    exact h
  rcases h with ⟨a, b, c, ha, hb, hc, rfl, rfl⟩ | ⟨h, _⟩
  · obtain rfl := stands_one ha.2.2 s1
    obtain rfl := stands_one hb.2.2 s2
    obtain rfl := stands_one hc.2.2 s3
    refine ⟨?_, rfl⟩
    rw [show ((x.toNat : Nat) : Int) = x by omega, show ((y.toNat : Nat) : Int) = y by omega, show ((z.toNat : Nat) : Int) = z by omega]
  · exact absurd ⟨by omega, by omega, s3⟩ (h _ _ _ ⟨by omega, by omega, s1⟩ ⟨by omega, by omega, s2⟩)
def ErrOr (w : World) (a b c : Int) (e : Value) : Prop := e = .nilIface ∨ (a = 0 ∧ b = 0 ∧ c = 0 ∧ IsErr w e 13)
theorem ErrOr.on {w w' : World} {a b c : Int} {e : Value} (h : ErrOr w a b c e) (k : Below w.heap.size w w') : ErrOr w' a b c e :=
  h.imp_right fun ⟨h1, h2, h3, h4⟩ => ⟨h1, h2, h3, h4.on k⟩
/-- what is read of any bytes, its error told by a number -/
theorem any_read {w : World} {s : ByteArray} {v e : Value} (h : RefAt w s 0 v e) : (∃ a b c, v = .agg (refA a b c) ∧ e = .nilIface) ∨ (v = .agg (refA 0 0 0) ∧ ∃ T u, e = .iface T u ∧ IsErr w e 13) := by
  rcases h with ⟨a, b, c, _, _, _, h1, h2⟩ | ⟨_, h1, h2⟩
  · exact .inl ⟨_, _, _, h1, h2⟩
  · exact .inr ⟨h1, h2⟩
/-- what follows behind the first n statements -/
def tl : Nat → Code → Code
  | 0, c => c
  | n + 1, .seq _ b => tl n b
  | _ + 1, c => c
noncomputable def part4_code : Code := tl 11 ((Tryd.f6.body).getD .skip)
set_option maxHeartbeats 16000000 in
set_option maxRecDepth 100000 in
theorem part4 {c0 c1 c3 c4 c5 c6 c7 c11 c13 c14 c15 c16 c17 c18 c19 c20 c21 c22 c23 c24 c25 c26 c27 c28 c29 c30 c31 c32 c33 c34 c35 c36 c37 c38 c39 c40 c41 c42 c43 c44 c45 c46 c47 c48 c49 c50 c51 c52 c53 c54 c55 c56 c57 c58 c59 c60 c61 c62 c63 c64 c65 c66 c67 c68 c69 c70 c71 c72 c73 c74 c75 c76 c77 c78 c79 c80 c81 c82 c83 c84 c85 c86 c87 c88 c89 c90 c91 c92 c93 c94 c95 c96 c97 c98 c99 c100 c101 c102 c103 c104 c105 c106 c107 c108 c109 c110 c111 c112 c113 c114 c115 c116 c117 c118 c119 c120 c121 c122 c123 c124 c125 c126 c127 c128 c129 c130 c131 c132 c133 c134 c135 c136 c137 c138 c139 c140 c141 c142 c143 c144 c145 c146 c147 c148 c149 c150 c151 c152 c153 c154 c155 c156 c157 c158 c159 c160 c161 c162 c163 c164 c165 c166 c167 : Value} (x y z : Int) (s : ByteArray) (W : World) (B : Nat) (hB : W.heap.size = B) (HZ : Hid (0 ≤ z ∧ z ≤ 4294967295)) (hlen : ¬20000 < s.size) (w1 : World) (V R M : Nat) (e0 : Value) (a1 a2 a3 : Int) (br : Bool) (HBr : Hid (decide (1 ≤ y ∧ y ≤ 1280 ∧ 0 ≤ x ∧ x ≤ 20 - (y + 63) / 64) = br)) (HS1 : Hid (Bs W w1 B x y z)) (HE1 : Hid (ErrOr w1 a1 a2 a3 e0)) (HV1 : Hid (w1.heap[V]? = some (Obj.cells (refA a1 a2 a3) 30 (0, 0)))) (HD1 : Hid (IsD w1 R M (.slice none 0 0) ⟨20, fun _ => pz, [], false, -1⟩)) : Code.wp Tryd.prog part4_code (bodyPost Tryd.prog Tryd.f6 fun e w' => e = Ending.returned (Value.bool true) ∧ Below W.heap.size W w') ⟨#[c0, c1, .pointer (some ⟨B, 0, none⟩), c3, c4, c5, c6, c7, .pointer (some ⟨V, 0, none⟩), e0, .pointer (some ⟨R, 0, none⟩), c11, .bool br, c13, c14, c15, c16, c17, c18, c19, c20, c21, c22, c23, c24, c25, c26, c27, c28, c29, c30, c31, c32, c33, c34, c35, c36, c37, c38, c39, c40, c41, c42, c43, c44, c45, c46, c47, c48, c49, c50, c51, c52, c53, c54, c55, c56, c57, c58, c59, c60, c61, c62, c63, c64, c65, c66, c67, c68, c69, c70, c71, c72, c73, c74, c75, c76, c77, c78, c79, c80, c81, c82, c83, c84, c85, c86, c87, c88, c89, c90, c91, c92, c93, c94, c95, c96, c97, c98, c99, c100, c101, c102, c103, c104, c105, c106, c107, c108, c109, c110, c111, c112, c113, c114, c115, c116, c117, c118, c119, c120, c121, c122, c123, c124, c125, c126, c127, c128, c129, c130, c131, c132, c133, c134, c135, c136, c137, c138, c139, c140, c141, c142, c143, c144, c145, c146, c147, c148, c149, c150, c151, c152, c153, c154, c155, c156, c157, c158, c159, c160, c161, c162, c163, c164, c165, c166, c167], []⟩ w1 := by
  conv => arg 2; whnf
  have hz := HZ.out
  have hrv : rightV x y 20 = br := by
    rw [← HBr.out]
    cases h : rightV x y 20 with
    | true => exact (decide_eq_true ((right20 x y).1 h)).symm
    | false => exact (decide_eq_false (fun h2 => by rw [(right20 x y).2 h2] at h; cases h)).symm
  have HRV := Lib.hid hrv
  clear hrv HBr
  have hE := HE1.out
  rcases hE with rfl | ⟨rfl, rfl, rfl, hE⟩
  · cases br with
    | false =>
      clear HE1
      go_upto_region 18 with fail
      go_wp2_with (first | (refine wl_loadR B x y z HS1.out.blk rfl _ rfl rfl ?_))
      refine (get_wrong w1 R M _ _ x y z HD1 (Lib.hid HRV.out) (by decide) (by decide)).mono ?_
      rintro e w2 ⟨⟨T, u, rfl, hG⟩, hd⟩
      have HS2 := Lib.hid (HS1.out.on hd)
      have HV2 := blk_to HV1 hd
      have HD2 := Lib.hid (HD1.out.on hd)
      have HG2 := Lib.hid hG
      clear hG hd HS1 HV1 HD1
      clear HD2
      go_wp2_with fail
      refine (bread_nil _).mono ?_
      rintro e w3 ⟨rfl, hd⟩
      have HS3 := Lib.hid (HS2.out.on hd)
      have HV3 := blk_to HV2 hd
      have HG3 := Lib.hid (HG2.out.on hd)
      clear hd HS2 HV2 HG2
      have hd : Below w3.heap.size w3 (w3.alloc (Obj.cells (refA 0 0 0) 30 (0, 0))) := (Below.refl _ _).alloc (Nat.le_refl _) _
      have HS4 := Lib.hid (HS3.out.on hd)
      have HV4 := blk_to HV3 hd
      have HG4 := Lib.hid (HG3.out.on hd)
      have HQ4 := Lib.hid (heap_alloc_last w3 (Obj.cells (refA 0 0 0) 30 (0, 0)))
      clear hd HS3 HV3 HG3
      go_wp2_with (first
        | (refine wl_allocR rfl rfl ?_)
        | (refine wl_storeRn 0 0 0 0 0 0 rfl _ _ rfl rfl rfl ?_))
      obtain ⟨Q, hQ⟩ : ∃ Q, w3.heap.size = Q := ⟨_, rfl⟩
      rw [hQ] at HQ4
      (try simp only [hQ])
      generalize (w3.alloc (Obj.cells (refA 0 0 0) 30 (0, 0))) = w4 at *
      clear hQ
      have hb0 : (false == false) = true := rfl
      refine (code_nil _).mono ?_
      rintro e w5 ⟨rfl, hd⟩
      have HS5 := Lib.hid (HS4.out.on hd)
      have HV5 := blk_to HV4 hd
      have HG5 := Lib.hid (HG4.out.on hd)
      have HQ5 := blk_to HQ4 hd
      clear hd HS4 HV4 HG4 HQ4
      go_wp2_with (first
        | (refine wg_loadR V a1 a2 a3 HV5.out (by rfl) _ rfl rfl ?_)
        | (refine wg_loadR B x y z HS5.out.blk (by rfl) _ rfl rfl ?_)
        | (refine wg_eqRf 0 0 0 0 0 0 true (by rfl) _ _ rfl rfl rfl rfl ?_))
      refine (right_c x y z 20 _ (by omega) (by omega)).mono ?_
      rintro e w6 ⟨rfl, hd⟩
      rw [HRV.out]
      have HS6 := Lib.hid (HS5.out.on hd)
      have HV6 := blk_to HV5 hd
      have HG6 := Lib.hid (HG5.out.on hd)
      have HQ6 := blk_to HQ5 hd
      clear hd HS5 HV5 HG5 HQ5
      go_wp2_with (first
        | (refine wg_loadR V a1 a2 a3 HV6.out (by rfl) _ rfl rfl ?_)
        | (refine wg_loadR B x y z HS6.out.blk (by rfl) _ rfl rfl ?_)
        | (refine wg_eqRf 0 0 0 0 0 0 true (by rfl) _ _ rfl rfl rfl rfl ?_))
      refine (code_c _ 1 _ HG6 (Lib.hid HS6.out.laid)).mono ?_
      rintro e w7 ⟨rfl, hd⟩
      have HS7 := Lib.hid (HS6.out.on hd)
      have HV7 := blk_to HV6 hd
      have HG7 := Lib.hid (HG6.out.on hd)
      have HQ7 := blk_to HQ6 hd
      clear hd HS6 HV6 HG6 HQ6
      go_wp2_with fail
      refine (code_c _ 1 _ (Lib.hid (.inr ⟨_, Chain.base 1⟩)) (Lib.hid HS7.out.laid)).mono ?_
      rintro e w8 ⟨rfl, hd⟩
      have HS8 := Lib.hid (HS7.out.on hd)
      have HV8 := blk_to HV7 hd
      have HG8 := Lib.hid (HG7.out.on hd)
      have HQ8 := blk_to HQ7 hd
      clear hd HS7 HV7 HG7 HQ7
      go_wp2_with fail
      go_ret
      have hS := HS8.out.bel
      exact ⟨rfl, hS⟩
    | true =>
      clear HE1
      go_upto_region 18 with fail
      go_wp2_with (first | (refine wl_loadR B x y z HS1.out.blk rfl _ rfl rfl ?_))
      obtain ⟨n, hn⟩ : ∃ n : Nat, pagesV y = (n : Int) := ⟨(pagesV y).toNat, by have := pagesV_le y; omega⟩
      have hr3 : 0 < pagesV y ∧ 0 ≤ x ∧ x ≤ 20 - pagesV y := by
        have h := HRV.out
        unfold rightV at h
        simp only [Bool.and_eq_true, decide_eq_true_eq] at h
        exact ⟨h.1.1, h.1.2, h.2⟩
      refine (get_ok w1 R M _ _ x y z n _ HD1 (Lib.hid rfl) (Lib.hid hn) (by omega) hr3.2.1 (by show x + (n : Int) ≤ 20; omega) (by decide) (by decide) (Lib.hid rfl)).mono ?_
      rintro e w2 ⟨h1, h2, hd⟩
      obtain ⟨t, E, rfl⟩ : ∃ t E, e = .returned (.tuple #[.string t, E]) := by
        by_cases hs : sum (strOfNums ((gs ⟨20, fun _ => pz, [], false, -1⟩ x n).take y.toNat)) = z
        · exact ⟨_, _, h1 hs⟩
        · obtain ⟨T, u, h3, _⟩ := h2 hs
          exact ⟨_, _, h3⟩
      clear h1 h2 hn hr3
      have HS2 := Lib.hid (HS1.out.on hd)
      have HV2 := blk_to HV1 hd
      have HD2 := Lib.hid (HD1.out.on hd)
      clear hd HS1 HV1 HD1
      clear HD2
      go_wp2_with fail
      refine (bread_nil _).mono ?_
      rintro e w3 ⟨rfl, hd⟩
      have HS3 := Lib.hid (HS2.out.on hd)
      have HV3 := blk_to HV2 hd
      clear hd HS2 HV2
      have hd : Below w3.heap.size w3 (w3.alloc (Obj.cells (refA 0 0 0) 30 (0, 0))) := (Below.refl _ _).alloc (Nat.le_refl _) _
      have HS4 := Lib.hid (HS3.out.on hd)
      have HV4 := blk_to HV3 hd
      have HQ4 := Lib.hid (heap_alloc_last w3 (Obj.cells (refA 0 0 0) 30 (0, 0)))
      clear hd HS3 HV3
      go_wp2_with (first
        | (refine wl_allocR rfl rfl ?_)
        | (refine wl_storeRn 0 0 0 0 0 0 rfl _ _ rfl rfl rfl ?_))
      obtain ⟨Q, hQ⟩ : ∃ Q, w3.heap.size = Q := ⟨_, rfl⟩
      rw [hQ] at HQ4
      (try simp only [hQ])
      generalize (w3.alloc (Obj.cells (refA 0 0 0) 30 (0, 0))) = w4 at *
      clear hQ
      have hb1 : (true == true) = true := rfl
      refine (code_nil _).mono ?_
      rintro e w5 ⟨rfl, hd⟩
      have HS5 := Lib.hid (HS4.out.on hd)
      have HV5 := blk_to HV4 hd
      have HQ5 := blk_to HQ4 hd
      clear hd HS4 HV4 HQ4
      go_wp2_with (first
        | (refine wg_loadR V a1 a2 a3 HV5.out (by rfl) _ rfl rfl ?_)
        | (refine wg_loadR B x y z HS5.out.blk (by rfl) _ rfl rfl ?_)
        | (refine wg_eqRf 0 0 0 0 0 0 true (by rfl) _ _ rfl rfl rfl rfl ?_))
      refine (right_c x y z 20 _ (by omega) (by omega)).mono ?_
      rintro e w6 ⟨rfl, hd⟩
      rw [HRV.out]
      have HS6 := Lib.hid (HS5.out.on hd)
      have HV6 := blk_to HV5 hd
      have HQ6 := blk_to HQ5 hd
      clear hd HS5 HV5 HQ5
      go_wp2_with (first
        | (refine wg_loadR V a1 a2 a3 HV6.out (by rfl) _ rfl rfl ?_)
        | (refine wg_loadR B x y z HS6.out.blk (by rfl) _ rfl rfl ?_)
        | (refine wg_eqRf 0 0 0 0 0 0 true (by rfl) _ _ rfl rfl rfl rfl ?_))
      refine (code_c _ 1 _ (Lib.hid (.inr ⟨_, Chain.base 1⟩)) (Lib.hid HS6.out.laid)).mono ?_
      rintro e w7 ⟨rfl, hd⟩
      have HS7 := Lib.hid (HS6.out.on hd)
      have HV7 := blk_to HV6 hd
      have HQ7 := blk_to HQ6 hd
      clear hd HS6 HV6 HQ6
      go_wp2_with fail
      go_ret
      have hS := HS7.out.bel
      exact ⟨rfl, hS⟩
  · cases br with
    | false =>
      clear HE1
      have HX1 := Lib.hid hE
      clear hE
      go_upto_region 18 with fail
      go_wp2_with (first | (refine wl_loadR B x y z HS1.out.blk rfl _ rfl rfl ?_))
      refine (get_wrong w1 R M _ _ x y z HD1 (Lib.hid HRV.out) (by decide) (by decide)).mono ?_
      rintro e w2 ⟨⟨T, u, rfl, hG⟩, hd⟩
      have HS2 := Lib.hid (HS1.out.on hd)
      have HV2 := blk_to HV1 hd
      have HD2 := Lib.hid (HD1.out.on hd)
      have HX2 := Lib.hid (HX1.out.on hd)
      have HG2 := Lib.hid hG
      clear hG hd HS1 HV1 HD1 HX1
      clear HD2
      go_wp2_with fail
      refine (bread_nil _).mono ?_
      rintro e w3 ⟨rfl, hd⟩
      have HS3 := Lib.hid (HS2.out.on hd)
      have HV3 := blk_to HV2 hd
      have HX3 := Lib.hid (HX2.out.on hd)
      have HG3 := Lib.hid (HG2.out.on hd)
      clear hd HS2 HV2 HX2 HG2
      have hd : Below w3.heap.size w3 (w3.alloc (Obj.cells (refA 0 0 0) 30 (0, 0))) := (Below.refl _ _).alloc (Nat.le_refl _) _
      have HS4 := Lib.hid (HS3.out.on hd)
      have HV4 := blk_to HV3 hd
      have HX4 := Lib.hid (HX3.out.on hd)
      have HG4 := Lib.hid (HG3.out.on hd)
      have HQ4 := Lib.hid (heap_alloc_last w3 (Obj.cells (refA 0 0 0) 30 (0, 0)))
      clear hd HS3 HV3 HX3 HG3
      go_wp2_with (first
        | (refine wl_allocR rfl rfl ?_)
        | (refine wl_storeRn 0 0 0 0 0 0 rfl _ _ rfl rfl rfl ?_))
      obtain ⟨Q, hQ⟩ : ∃ Q, w3.heap.size = Q := ⟨_, rfl⟩
      rw [hQ] at HQ4
      (try simp only [hQ])
      generalize (w3.alloc (Obj.cells (refA 0 0 0) 30 (0, 0))) = w4 at *
      clear hQ
      have hb0 : (false == false) = true := rfl
      refine (code_c _ 13 _ HX4 (Lib.hid HS4.out.laid)).mono ?_
      rintro e w5 ⟨rfl, hd⟩
      have HS5 := Lib.hid (HS4.out.on hd)
      have HV5 := blk_to HV4 hd
      have HX5 := Lib.hid (HX4.out.on hd)
      have HG5 := Lib.hid (HG4.out.on hd)
      have HQ5 := blk_to HQ4 hd
      clear hd HS4 HV4 HX4 HG4 HQ4
      go_wp2_with fail
      refine (code_c _ 13 _ HX5 (Lib.hid HS5.out.laid)).mono ?_
      rintro e w6 ⟨rfl, hd⟩
      have HS6 := Lib.hid (HS5.out.on hd)
      have HV6 := blk_to HV5 hd
      have HX6 := Lib.hid (HX5.out.on hd)
      have HG6 := Lib.hid (HG5.out.on hd)
      have HQ6 := blk_to HQ5 hd
      clear hd HS5 HV5 HX5 HG5 HQ5
      go_wp2_with (first
        | (refine wg_loadR V 0 0 0 HV6.out (by rfl) _ rfl rfl ?_)
        | (refine wg_loadR B x y z HS6.out.blk (by rfl) _ rfl rfl ?_)
        | (refine wg_eqRf 0 0 0 0 0 0 true (by rfl) _ _ rfl rfl rfl rfl ?_))
      refine (right_c x y z 20 _ (by omega) (by omega)).mono ?_
      rintro e w7 ⟨rfl, hd⟩
      rw [HRV.out]
      have HS7 := Lib.hid (HS6.out.on hd)
      have HV7 := blk_to HV6 hd
      have HX7 := Lib.hid (HX6.out.on hd)
      have HG7 := Lib.hid (HG6.out.on hd)
      have HQ7 := blk_to HQ6 hd
      clear hd HS6 HV6 HX6 HG6 HQ6
      go_wp2_with (first
        | (refine wg_loadR V 0 0 0 HV7.out (by rfl) _ rfl rfl ?_)
        | (refine wg_loadR B x y z HS7.out.blk (by rfl) _ rfl rfl ?_)
        | (refine wg_eqRf 0 0 0 0 0 0 true (by rfl) _ _ rfl rfl rfl rfl ?_))
      refine (code_c _ 1 _ HG7 (Lib.hid HS7.out.laid)).mono ?_
      rintro e w8 ⟨rfl, hd⟩
      have HS8 := Lib.hid (HS7.out.on hd)
      have HV8 := blk_to HV7 hd
      have HX8 := Lib.hid (HX7.out.on hd)
      have HG8 := Lib.hid (HG7.out.on hd)
      have HQ8 := blk_to HQ7 hd
      clear hd HS7 HV7 HX7 HG7 HQ7
      go_wp2_with fail
      refine (code_c _ 1 _ (Lib.hid (.inr ⟨_, Chain.base 1⟩)) (Lib.hid HS8.out.laid)).mono ?_
      rintro e w9 ⟨rfl, hd⟩
      have HS9 := Lib.hid (HS8.out.on hd)
      have HV9 := blk_to HV8 hd
      have HX9 := Lib.hid (HX8.out.on hd)
      have HG9 := Lib.hid (HG8.out.on hd)
      have HQ9 := blk_to HQ8 hd
      clear hd HS8 HV8 HX8 HG8 HQ8
      go_wp2_with fail
      go_ret
      have hS := HS9.out.bel
      exact ⟨rfl, hS⟩
    | true =>
      clear HE1
      have HX1 := Lib.hid hE
      clear hE
      go_upto_region 18 with fail
      go_wp2_with (first | (refine wl_loadR B x y z HS1.out.blk rfl _ rfl rfl ?_))
      obtain ⟨n, hn⟩ : ∃ n : Nat, pagesV y = (n : Int) := ⟨(pagesV y).toNat, by have := pagesV_le y; omega⟩
      have hr3 : 0 < pagesV y ∧ 0 ≤ x ∧ x ≤ 20 - pagesV y := by
        have h := HRV.out
        unfold rightV at h
        simp only [Bool.and_eq_true, decide_eq_true_eq] at h
        exact ⟨h.1.1, h.1.2, h.2⟩
      refine (get_ok w1 R M _ _ x y z n _ HD1 (Lib.hid rfl) (Lib.hid hn) (by omega) hr3.2.1 (by show x + (n : Int) ≤ 20; omega) (by decide) (by decide) (Lib.hid rfl)).mono ?_
      rintro e w2 ⟨h1, h2, hd⟩
      obtain ⟨t, E, rfl⟩ : ∃ t E, e = .returned (.tuple #[.string t, E]) := by
        by_cases hs : sum (strOfNums ((gs ⟨20, fun _ => pz, [], false, -1⟩ x n).take y.toNat)) = z
        · exact ⟨_, _, h1 hs⟩
        · obtain ⟨T, u, h3, _⟩ := h2 hs
          exact ⟨_, _, h3⟩
      clear h1 h2 hn hr3
      have HS2 := Lib.hid (HS1.out.on hd)
      have HV2 := blk_to HV1 hd
      have HD2 := Lib.hid (HD1.out.on hd)
      have HX2 := Lib.hid (HX1.out.on hd)
      clear hd HS1 HV1 HD1 HX1
      clear HD2
      go_wp2_with fail
      refine (bread_nil _).mono ?_
      rintro e w3 ⟨rfl, hd⟩
      have HS3 := Lib.hid (HS2.out.on hd)
      have HV3 := blk_to HV2 hd
      have HX3 := Lib.hid (HX2.out.on hd)
      clear hd HS2 HV2 HX2
      have hd : Below w3.heap.size w3 (w3.alloc (Obj.cells (refA 0 0 0) 30 (0, 0))) := (Below.refl _ _).alloc (Nat.le_refl _) _
      have HS4 := Lib.hid (HS3.out.on hd)
      have HV4 := blk_to HV3 hd
      have HX4 := Lib.hid (HX3.out.on hd)
      have HQ4 := Lib.hid (heap_alloc_last w3 (Obj.cells (refA 0 0 0) 30 (0, 0)))
      clear hd HS3 HV3 HX3
      go_wp2_with (first
        | (refine wl_allocR rfl rfl ?_)
        | (refine wl_storeRn 0 0 0 0 0 0 rfl _ _ rfl rfl rfl ?_))
      obtain ⟨Q, hQ⟩ : ∃ Q, w3.heap.size = Q := ⟨_, rfl⟩
      rw [hQ] at HQ4
      (try simp only [hQ])
      generalize (w3.alloc (Obj.cells (refA 0 0 0) 30 (0, 0))) = w4 at *
      clear hQ
      have hb1 : (true == true) = true := rfl
      refine (code_c _ 13 _ HX4 (Lib.hid HS4.out.laid)).mono ?_
      rintro e w5 ⟨rfl, hd⟩
      have HS5 := Lib.hid (HS4.out.on hd)
      have HV5 := blk_to HV4 hd
      have HX5 := Lib.hid (HX4.out.on hd)
      have HQ5 := blk_to HQ4 hd
      clear hd HS4 HV4 HX4 HQ4
      go_wp2_with fail
      refine (code_c _ 13 _ HX5 (Lib.hid HS5.out.laid)).mono ?_
      rintro e w6 ⟨rfl, hd⟩
      have HS6 := Lib.hid (HS5.out.on hd)
      have HV6 := blk_to HV5 hd
      have HX6 := Lib.hid (HX5.out.on hd)
      have HQ6 := blk_to HQ5 hd
      clear hd HS5 HV5 HX5 HQ5
      go_wp2_with (first
        | (refine wg_loadR V 0 0 0 HV6.out (by rfl) _ rfl rfl ?_)
        | (refine wg_loadR B x y z HS6.out.blk (by rfl) _ rfl rfl ?_)
        | (refine wg_eqRf 0 0 0 0 0 0 true (by rfl) _ _ rfl rfl rfl rfl ?_))
      refine (right_c x y z 20 _ (by omega) (by omega)).mono ?_
      rintro e w7 ⟨rfl, hd⟩
      rw [HRV.out]
      have HS7 := Lib.hid (HS6.out.on hd)
      have HV7 := blk_to HV6 hd
      have HX7 := Lib.hid (HX6.out.on hd)
      have HQ7 := blk_to HQ6 hd
      clear hd HS6 HV6 HX6 HQ6
      go_wp2_with (first
        | (refine wg_loadR V 0 0 0 HV7.out (by rfl) _ rfl rfl ?_)
        | (refine wg_loadR B x y z HS7.out.blk (by rfl) _ rfl rfl ?_)
        | (refine wg_eqRf 0 0 0 0 0 0 true (by rfl) _ _ rfl rfl rfl rfl ?_))
      refine (code_c _ 1 _ (Lib.hid (.inr ⟨_, Chain.base 1⟩)) (Lib.hid HS7.out.laid)).mono ?_
      rintro e w8 ⟨rfl, hd⟩
      have HS8 := Lib.hid (HS7.out.on hd)
      have HV8 := blk_to HV7 hd
      have HX8 := Lib.hid (HX7.out.on hd)
      have HQ8 := blk_to HQ7 hd
      clear hd HS7 HV7 HX7 HQ7
      go_wp2_with fail
      go_ret
      have hS := HS8.out.bel
      exact ⟨rfl, hS⟩
noncomputable def part3_code : Code := tl 8 ((Tryd.f6.body).getD .skip)
set_option maxHeartbeats 16000000 in
set_option maxRecDepth 100000 in
theorem part3 {c0 c3 c4 c5 c6 c7 c8 c9 c10 c11 c12 c13 c14 c15 c16 c17 c18 c19 c20 c21 c22 c23 c24 c25 c26 c27 c28 c29 c30 c31 c32 c33 c34 c35 c36 c37 c38 c39 c40 c41 c42 c43 c44 c45 c46 c47 c48 c49 c50 c51 c52 c53 c54 c55 c56 c57 c58 c59 c60 c61 c62 c63 c64 c65 c66 c67 c68 c69 c70 c71 c72 c73 c74 c75 c76 c77 c78 c79 c80 c81 c82 c83 c84 c85 c86 c87 c88 c89 c90 c91 c92 c93 c94 c95 c96 c97 c98 c99 c100 c101 c102 c103 c104 c105 c106 c107 c108 c109 c110 c111 c112 c113 c114 c115 c116 c117 c118 c119 c120 c121 c122 c123 c124 c125 c126 c127 c128 c129 c130 c131 c132 c133 c134 c135 c136 c137 c138 c139 c140 c141 c142 c143 c144 c145 c146 c147 c148 c149 c150 c151 c152 c153 c154 c155 c156 c157 c158 c159 c160 c161 c162 c163 c164 c165 c166 c167 : Value} (x y z : Int) (s : ByteArray) (W : World) (B : Nat) (hB : W.heap.size = B) (HZ : Hid (0 ≤ z ∧ z ≤ 4294967295)) (hlen : ¬20000 < s.size) (w1 : World) (HS1 : Hid (Bs W w1 B x y z)) : Code.wp Tryd.prog part3_code (bodyPost Tryd.prog Tryd.f6 fun e w' => e = Ending.returned (Value.bool true) ∧ Below W.heap.size W w') ⟨#[c0, .string s, .pointer (some ⟨B, 0, none⟩), c3, c4, c5, c6, c7, c8, c9, c10, c11, c12, c13, c14, c15, c16, c17, c18, c19, c20, c21, c22, c23, c24, c25, c26, c27, c28, c29, c30, c31, c32, c33, c34, c35, c36, c37, c38, c39, c40, c41, c42, c43, c44, c45, c46, c47, c48, c49, c50, c51, c52, c53, c54, c55, c56, c57, c58, c59, c60, c61, c62, c63, c64, c65, c66, c67, c68, c69, c70, c71, c72, c73, c74, c75, c76, c77, c78, c79, c80, c81, c82, c83, c84, c85, c86, c87, c88, c89, c90, c91, c92, c93, c94, c95, c96, c97, c98, c99, c100, c101, c102, c103, c104, c105, c106, c107, c108, c109, c110, c111, c112, c113, c114, c115, c116, c117, c118, c119, c120, c121, c122, c123, c124, c125, c126, c127, c128, c129, c130, c131, c132, c133, c134, c135, c136, c137, c138, c139, c140, c141, c142, c143, c144, c145, c146, c147, c148, c149, c150, c151, c152, c153, c154, c155, c156, c157, c158, c159, c160, c161, c162, c163, c164, c165, c166, c167], []⟩ w1 := by
  conv => arg 2; whnf
  have hs2 : s.size ≤ 4611686018427387904 := by omega
  go_wp2_with fail
  refine (new_v s _).mono ?_
  rintro e w2 ⟨R, hR, rfl, hH, hd1⟩
  go_wp2_with fail
  refine (bread_c R s 0 _ hH hs2).mono ?_
  rintro e w3 ⟨v, e0, rfl, hra, hm⟩
  have hd : Below w1.heap.size w1 w3 := hd1.trans (hm.below hd1.size (fun i hi (e : i = R) => by omega))
  have HS3 := Lib.hid (HS1.out.on hd)
  obtain ⟨a1, a2, a3, rfl, hE⟩ : ∃ a1 a2 a3, v = .agg (refA a1 a2 a3) ∧ ((e0 = .nilIface) ∨ (a1 = 0 ∧ a2 = 0 ∧ a3 = 0 ∧ IsErr w3 e0 13)) := by
    rcases any_read hra with ⟨a, b, c, h1, h2⟩ | ⟨h1, T0, u0, h2, h3⟩
    · exact ⟨_, _, _, h1, .inl h2⟩
    · exact ⟨_, _, _, h1, .inr ⟨rfl, rfl, rfl, h3⟩⟩
  have HE3 := Lib.hid (show ErrOr w3 a1 a2 a3 e0 from hE)
  clear hd hd1 hm hra hH hR hE HS1
  have hd : Below w3.heap.size w3 (w3.alloc (Obj.cells (refA a1 a2 a3) 30 (0, 0))) := (Below.refl _ _).alloc (Nat.le_refl _) _
  have HS4 := Lib.hid (HS3.out.on hd)
  have HE4 := Lib.hid (HE3.out.on hd)
  have HV4 := Lib.hid (heap_alloc_last w3 (Obj.cells (refA a1 a2 a3) 30 (0, 0)))
  clear hd HS3 HE3
  go_wp2_with (first
    | (refine wl_allocR rfl rfl ?_)
    | (refine wl_storeRn 0 0 0 a1 a2 a3 rfl _ _ rfl rfl rfl ?_))
  obtain ⟨V, hV⟩ : ∃ V, w3.heap.size = V := ⟨_, rfl⟩
  rw [hV] at HV4
  (try simp only [hV])
  generalize (w3.alloc (Obj.cells (refA a1 a2 a3) 30 (0, 0))) = w4 at *
  clear hV
  refine (new_c _ 20 (by omega) (by omega)).mono ?_
  rintro e w5 ⟨R, M, _, _, rfl, hd, hdd⟩
  have HS5 := Lib.hid (HS4.out.on hd)
  have HE5 := Lib.hid (HE4.out.on hd)
  have HV5 := blk_to HV4 hd
  have HD5 := Lib.hid hdd
  clear hd hdd HS4 HE4 HV4
  go_upto_region 17 with fail
  obtain ⟨br, hbr⟩ : ∃ b, decide (1 ≤ y ∧ y ≤ 1280 ∧ 0 ≤ x ∧ x ≤ 20 - (y + 63) / 64) = b := ⟨_, rfl⟩
  have HBbr := Lib.hid hbr
  clear hbr
  go_cut [12] (fun v12 wc => v12 = .bool br ∧ w5 = wc)
  case first =>
    have c0 := HS5.out.c0
    have c1 := HS5.out.c1
    by_cases h0 : 1 ≤ y
    · have t0_0 : decide (1 ≤ y) = true := decide_eq_true h0
      have t0_1 : decide (y ≥ 1) = true := decide_eq_true (by omega)
      by_cases h1 : y ≤ 1280
      · have t1_0 : decide (y ≤ 1280) = true := decide_eq_true h1
        by_cases h2 : 0 ≤ x
        · have t2_0 : decide (0 ≤ x) = true := decide_eq_true h2
          have t2_1 : decide (x ≥ 0) = true := decide_eq_true (by omega)
          have q1 : IntKind.i64.wrap (y + 63) = y + 63 := IntWalk.i64_in _ (by omega)
          have q2 : (y + 63).tdiv 64 = (y + 63) / 64 := Int.tdiv_eq_ediv_of_nonneg (by omega)
          have q3 : IntKind.i64.wrap ((y + 63) / 64) = (y + 63) / 64 := IntWalk.i64_in _ (by omega)
          have q4 : IntKind.i64.wrap (20 - (y + 63) / 64) = 20 - (y + 63) / 64 := IntWalk.i64_in _ (by omega)
          by_cases h3 : x ≤ 20 - (y + 63) / 64
          · have t3_0 : decide (x ≤ 20 - (y + 63) / 64) = true := decide_eq_true h3
            obtain rfl : br = true := by rw [← HBbr.out]; exact decide_eq_true ⟨h0, h1, h2, h3⟩
            clear HBbr h0 h1 h2 h3
            go_wp2_with fail
            go_meet
            exact ⟨rfl, rfl⟩
          · have t3_0 : decide (x ≤ 20 - (y + 63) / 64) = false := decide_eq_false h3
            obtain rfl : br = false := by rw [← HBbr.out]; exact decide_eq_false (fun h => h3 h.2.2.2)
            clear HBbr h0 h1 h2 h3
            go_wp2_with fail
            go_meet
            exact ⟨rfl, rfl⟩
        · have t2_0 : decide (0 ≤ x) = false := decide_eq_false h2
          have t2_1 : decide (x ≥ 0) = false := decide_eq_false (by omega)
          obtain rfl : br = false := by rw [← HBbr.out]; exact decide_eq_false (fun h => h2 h.2.2.1)
          clear HBbr h0 h1 h2
          go_wp2_with fail
          go_meet
          exact ⟨rfl, rfl⟩
      · have t1_0 : decide (y ≤ 1280) = false := decide_eq_false h1
        obtain rfl : br = false := by rw [← HBbr.out]; exact decide_eq_false (fun h => h1 h.2.1)
        clear HBbr h0 h1
        go_wp2_with fail
        go_meet
        exact ⟨rfl, rfl⟩
    · have t0_0 : decide (1 ≤ y) = false := decide_eq_false h0
      have t0_1 : decide (y ≥ 1) = false := decide_eq_false (by omega)
      obtain rfl : br = false := by rw [← HBbr.out]; exact decide_eq_false (fun h => h0 h.1)
      clear HBbr h0
      go_wp2_with fail
      go_meet
      exact ⟨rfl, rfl⟩
  case rest =>
  obtain ⟨rfl, rfl⟩ := hcut
  go_step
  exact part4 x y z s W B hB HZ hlen _ V R M e0 a1 a2 a3 br HBbr HS5 HE5 HV5 HD5
noncomputable def part2_code : Code := tl 5 ((Tryd.f6.body).getD .skip)
set_option maxHeartbeats 16000000 in
set_option maxRecDepth 100000 in
theorem part2 {c0 c3 c4 c6 c7 c8 c9 c10 c11 c12 c13 c14 c15 c16 c17 c18 c19 c20 c21 c22 c23 c24 c25 c26 c27 c28 c29 c30 c31 c32 c33 c34 c35 c36 c37 c38 c39 c40 c41 c42 c43 c44 c45 c46 c47 c48 c49 c50 c51 c52 c53 c54 c55 c56 c57 c58 c59 c60 c61 c62 c63 c64 c65 c66 c67 c68 c69 c70 c71 c72 c73 c74 c75 c76 c77 c78 c79 c80 c81 c82 c83 c84 c85 c86 c87 c88 c89 c90 c91 c92 c93 c94 c95 c96 c97 c98 c99 c100 c101 c102 c103 c104 c105 c106 c107 c108 c109 c110 c111 c112 c113 c114 c115 c116 c117 c118 c119 c120 c121 c122 c123 c124 c125 c126 c127 c128 c129 c130 c131 c132 c133 c134 c135 c136 c137 c138 c139 c140 c141 c142 c143 c144 c145 c146 c147 c148 c149 c150 c151 c152 c153 c154 c155 c156 c157 c158 c159 c160 c161 c162 c163 c164 c165 c166 c167 : Value} (x y z : Int) (s : ByteArray) (W : World) (B : Nat) (hB : W.heap.size = B) (HZ : Hid (0 ≤ z ∧ z ≤ 4294967295)) (hlen : ¬20000 < s.size) (n1 n2 : ByteArray) (l1 : n1.size ≤ 9) (l2 : n2.size ≤ 9) (HN1 : Hid (numX x = n1)) (HN2 : Hid (numX y = n2)) (w1 : World) (HS1 : Hid (Bs W w1 B x y z)) : Code.wp Tryd.prog part2_code (bodyPost Tryd.prog Tryd.f6 fun e w' => e = Ending.returned (Value.bool true) ∧ Below W.heap.size W w') ⟨#[c0, .string s, .pointer (some ⟨B, 0, none⟩), c3, c4, .string (n1 ++ n2), c6, c7, c8, c9, c10, c11, c12, c13, c14, c15, c16, c17, c18, c19, c20, c21, c22, c23, c24, c25, c26, c27, c28, c29, c30, c31, c32, c33, c34, c35, c36, c37, c38, c39, c40, c41, c42, c43, c44, c45, c46, c47, c48, c49, c50, c51, c52, c53, c54, c55, c56, c57, c58, c59, c60, c61, c62, c63, c64, c65, c66, c67, c68, c69, c70, c71, c72, c73, c74, c75, c76, c77, c78, c79, c80, c81, c82, c83, c84, c85, c86, c87, c88, c89, c90, c91, c92, c93, c94, c95, c96, c97, c98, c99, c100, c101, c102, c103, c104, c105, c106, c107, c108, c109, c110, c111, c112, c113, c114, c115, c116, c117, c118, c119, c120, c121, c122, c123, c124, c125, c126, c127, c128, c129, c130, c131, c132, c133, c134, c135, c136, c137, c138, c139, c140, c141, c142, c143, c144, c145, c146, c147, c148, c149, c150, c151, c152, c153, c154, c155, c156, c157, c158, c159, c160, c161, c162, c163, c164, c165, c166, c167], []⟩ w1 := by
  conv => arg 2; whnf
  obtain ⟨n3, hn3⟩ : ∃ n3, numX z = n3 := ⟨_, rfl⟩
  have l3 := numX_le z
  rw [hn3] at l3
  have e3 := numX_in HZ.out.1 (by have := HZ.out.2; omega)
  rw [hn3] at e3
  have k3 : IntKind.i64.wrap z = z := IntWalk.i64_in _ (by have := HZ.out; omega)
  have ks : (n1 ++ n2).size = n1.size + n2.size := ByteArray.size_append
  have k4 : (9223372036854775807 < n1.size + n2.size + n3.size) = False := eq_false (by omega)
  have HN3 := Lib.hid hn3
  clear hn3
  have c2 := HS1.out.c2
  go_wp2_with fail
  refine (rnum_v z HZ.out.1 (by have := HZ.out.2; omega) _).mono ?_
  rintro e w2 ⟨rfl, hd⟩
  have HS2 := Lib.hid (HS1.out.on hd)
  rw [← e3]
  clear e3 k3 c2
  clear hd HS1
  go_wp2_with (first | (refine wl_loadR B x y z HS2.out.blk rfl _ rfl rfl ?_))
  refine (lay_any x y z _ HZ.out.1 HZ.out.2).mono ?_
  rintro e w3 ⟨rfl, hd⟩
  have HS3 := Lib.hid (HS2.out.on hd)
  rw [HN1.out, HN2.out, HN3.out]
  clear hd HS2
  obtain ⟨T, hT⟩ : ∃ T, n1 ++ n2 ++ n3 = T := ⟨_, rfl⟩
  have HT := Lib.hid hT
  have hTs : T.size ≤ 27 := by rw [← hT]; simp only [ByteArray.size_append]; omega
  rw [hT]
  clear hT k4 ks
  go_upto_region 11 with fail
  obtain ⟨bf, hbf⟩ : ∃ b, decide (0 ≤ x ∧ x ≤ 2048 ∧ 0 ≤ y ∧ y ≤ 16384) = b := ⟨_, rfl⟩
  have HBbf := Lib.hid hbf
  clear hbf
  go_cut [76] (fun v76 wc => v76 = .bool bf ∧ w3 = wc)
  case first =>
    have c0 := HS3.out.c0
    have c1 := HS3.out.c1
    by_cases h0 : 0 ≤ x
    · have t0_0 : decide (0 ≤ x) = true := decide_eq_true h0
      have t0_1 : decide (x ≥ 0) = true := decide_eq_true (by omega)
      by_cases h1 : x ≤ 2048
      · have t1_0 : decide (x ≤ 2048) = true := decide_eq_true h1
        by_cases h2 : 0 ≤ y
        · have t2_0 : decide (0 ≤ y) = true := decide_eq_true h2
          have t2_1 : decide (y ≥ 0) = true := decide_eq_true (by omega)
          by_cases h3 : y ≤ 16384
          · have t3_0 : decide (y ≤ 16384) = true := decide_eq_true h3
            obtain rfl : bf = true := by rw [← HBbf.out]; exact decide_eq_true ⟨h0, h1, h2, h3⟩
            clear HBbf h0 h1 h2 h3
            go_wp2_with fail
            go_meet
            exact ⟨rfl, rfl⟩
          · have t3_0 : decide (y ≤ 16384) = false := decide_eq_false h3
            obtain rfl : bf = false := by rw [← HBbf.out]; exact decide_eq_false (fun h => h3 h.2.2.2)
            clear HBbf h0 h1 h2 h3
            go_wp2_with fail
            go_meet
            exact ⟨rfl, rfl⟩
        · have t2_0 : decide (0 ≤ y) = false := decide_eq_false h2
          have t2_1 : decide (y ≥ 0) = false := decide_eq_false (by omega)
          obtain rfl : bf = false := by rw [← HBbf.out]; exact decide_eq_false (fun h => h2 h.2.2.1)
          clear HBbf h0 h1 h2
          go_wp2_with fail
          go_meet
          exact ⟨rfl, rfl⟩
      · have t1_0 : decide (x ≤ 2048) = false := decide_eq_false h1
        obtain rfl : bf = false := by rw [← HBbf.out]; exact decide_eq_false (fun h => h1 h.2.1)
        clear HBbf h0 h1
        go_wp2_with fail
        go_meet
        exact ⟨rfl, rfl⟩
    · have t0_0 : decide (0 ≤ x) = false := decide_eq_false h0
      have t0_1 : decide (x ≥ 0) = false := decide_eq_false (by omega)
      obtain rfl : bf = false := by rw [← HBbf.out]; exact decide_eq_false (fun h => h0 h.1)
      clear HBbf h0
      go_wp2_with fail
      go_meet
      exact ⟨rfl, rfl⟩
  case rest =>
  obtain ⟨rfl, rfl⟩ := hcut
  go_upto_if 76 with fail
  go_cut [] (fun wc => Hid (Bs W wc B x y z))
  case first =>
    cases bf with
    | false =>
      clear HBbf
      go_wp2_with fail
      go_meet
      exact HS3
    | true =>
      have hin := of_decide_eq_true HBbf.out
      have hTe : T = numS x.toNat ++ numS y.toNat ++ numS z.toNat := by rw [← HT.out, ← HN1.out, ← HN2.out, ← HN3.out, numX_in hin.1 (by omega), numX_in hin.2.2.1 (by omega), numX_in HZ.out.1 (by have := HZ.out.2; omega)]
      have HIN := Lib.hid hin
      have HTE := Lib.hid hTe
      have k5 : (9223372036854775807 < T.size + s.size) = False := eq_false (by omega)
      have hts2 : (T ++ s).size ≤ 4611686018427387904 := by rw [ByteArray.size_append]; omega
      clear HBbf hin hTe
      go_wp2_with fail
      refine (new_v (T ++ s) _).mono ?_
      rintro e w4 ⟨R, hR, rfl, hH, hd1⟩
      clear k5
      go_wp2_with fail
      refine (bread_c R (T ++ s) 0 _ hH hts2).mono ?_
      rintro e w5 ⟨v, e0, rfl, hra, hm⟩
      rw [HTE.out] at hra
      obtain ⟨rfl, rfl⟩ := laid_read HIN.out.1 HIN.out.2.1 HIN.out.2.2.1 HIN.out.2.2.2 HZ.out.1 HZ.out.2 hra
      have hd : Below w3.heap.size w3 w5 := hd1.trans (hm.below hd1.size (fun i hi (e : i = R) => by omega))
      have HS5 := Lib.hid (HS3.out.on hd)
      clear hd hd1 hm hra hH hR HS3
      have hd : Below w5.heap.size w5 (w5.alloc (Obj.cells (refA x y z) 30 (0, 0))) := (Below.refl _ _).alloc (Nat.le_refl _) _
      have HS6 := Lib.hid (HS5.out.on hd)
      have HV6 := Lib.hid (heap_alloc_last w5 (Obj.cells (refA x y z) 30 (0, 0)))
      clear hd HS5
      go_wp2_with (first
        | (refine wl_allocR rfl rfl ?_)
        | (refine wl_storeRn 0 0 0 x y z rfl _ _ rfl rfl rfl ?_))
      obtain ⟨V, hV⟩ : ∃ V, w5.heap.size = V := ⟨_, rfl⟩
      rw [hV] at HV6
      (try simp only [hV])
      generalize (w5.alloc (Obj.cells (refA x y z) 30 (0, 0))) = w6 at *
      clear hV
      refine (code_nil _).mono ?_
      rintro e w7 ⟨rfl, hd⟩
      have HS7 := Lib.hid (HS6.out.on hd)
      have HV7 := blk_to HV6 hd
      clear hd HS6 HV6
      go_wp2_with (first
        | (refine wg_loadR V x y z HV7.out (by rfl) _ rfl rfl ?_)
        | (refine wg_loadR B x y z HS7.out.blk (by rfl) _ rfl rfl ?_)
        | (refine wg_neRf x y z x y z false (by rfl) _ _ rfl rfl rfl (refself x y z) ?_))
      go_meet
      exact HS7
  case rest =>
  have HS4 := hcut
  clear HS3 HBbf hcut
  generalize wc = w4 at *
  go_step
  exact part3 x y z s W B hB HZ hlen _ HS4
set_option maxHeartbeats 16000000 in
set_option maxRecDepth 100000 in
theorem walk (x y z : Int) (s : ByteArray) (W : World) (hw : RefWf x y z) (hs : s.size ≤ 140737488351232) (hg : Hid (Laid W)) : Calls Tryd.prog 6 #[.agg (refA x y z), .string s] W fun e w' => e = .returned (.bool true) ∧ Below W.heap.size W w' := by
  have hz0 := hw.bounds.2.2.1
  have hz1 : z ≤ 4294967295 := by have := hw.bounds.2.2.2; omega
  have HZ := Lib.hid (show 0 ≤ z ∧ z ≤ 4294967295 from ⟨hz0, hz1⟩)
  go_enter Tryd.func6, Tryd.ntmps6
  go_wp2_with fail
  have hb1 : Below W.heap.size W (W.alloc (Obj.cells (refA x y z) 30 (0, 0))) := (Below.refl _ _).alloc (Nat.le_refl _) _
  have HS1 := Lib.hid (show Bs W (W.alloc (Obj.cells (refA x y z) 30 (0, 0))) W.heap.size x y z from ⟨heap_alloc_last W _, hb1, hg.out.on hb1⟩)
  obtain ⟨B, hB⟩ : ∃ B, W.heap.size = B := ⟨_, rfl⟩
  rw [hB] at hb1
  simp only [hB] at HS1 ⊢
  generalize (W.alloc (Obj.cells (refA x y z) 30 (0, 0))) = w1 at *
  clear hb1
  by_cases hlen : 20000 < s.size
  · have g0 : decide ((s.size : Int) > 20000) = true := decide_eq_true (by omega)
    have g0b : decide (20000 < s.size) = true := decide_eq_true hlen
    refine (awake_c _).mono ?_
    rintro e w2 ⟨rfl, hd⟩
    have HS2 := Lib.hid (HS1.out.on hd)
    clear hd HS1
    go_wp2_with fail
    refine (awake_c _).mono ?_
    rintro e w3 ⟨rfl, hd⟩
    have HS3 := Lib.hid (HS2.out.on hd)
    clear hd HS2
    go_wp2_with fail
    go_ret
    have hS := HS3.out.bel
    rw [hB] at hS
    rw [hB]
    exact ⟨rfl, hS⟩
  have g0 : decide ((s.size : Int) > 20000) = false := decide_eq_false (by omega)
  have g0b : decide (20000 < s.size) = false := decide_eq_false (by omega)
  refine (awake_c _).mono ?_
  rintro e w2 ⟨rfl, hd⟩
  have HS2 := Lib.hid (HS1.out.on hd)
  clear hd HS1
  go_upto_region 4 with fail
  obtain ⟨b_x, hbx⟩ : ∃ b, inB x = b := ⟨_, rfl⟩
  have HBx := Lib.hid hbx
  clear hbx
  go_cut [32] (fun v32 wc => v32 = .bool b_x ∧ w2 = wc)
  case first =>
    have c0 := HS2.out.c0
    by_cases h0 : 0 ≤ x
    · have t0 : decide (x ≥ 0) = true := decide_eq_true h0
      have t0b : decide (0 ≤ x) = true := decide_eq_true h0
      by_cases h1 : x ≤ 4611686018427387904
      · have t1 : decide (x ≤ 4611686018427387904) = true := decide_eq_true h1
        obtain rfl : b_x = true := by rw [← HBx.out]; unfold inB; rw [decide_eq_true ⟨h0, h1⟩]
        clear h0 h1 HBx
        go_wp2_with fail
        go_meet
        exact ⟨rfl, rfl⟩
      · have t1 : decide (x ≤ 4611686018427387904) = false := decide_eq_false h1
        obtain rfl : b_x = false := by rw [← HBx.out]; unfold inB; rw [decide_eq_false (fun h => h1 h.2)]
        clear h0 h1 HBx
        go_wp2_with fail
        go_meet
        exact ⟨rfl, rfl⟩
    · have t0 : decide (x ≥ 0) = false := decide_eq_false h0
      have t0b : decide (0 ≤ x) = false := decide_eq_false h0
      obtain rfl : b_x = false := by rw [← HBx.out]; unfold inB; rw [decide_eq_false (fun h => h0 h.1)]
      clear h0 HBx
      go_wp2_with fail
      go_meet
      exact ⟨rfl, rfl⟩
  case rest =>
  obtain ⟨rfl, rfl⟩ := hcut
  go_upto_if 32 with fail
  go_cut [5] (fun v5 wc => v5 = .string (numX x) ∧ Hid (Bs W wc B x y z))
  case first =>
    cases b_x with
    | false =>
      have e : numX x = ⟨#[]⟩ := numX_out (fun h => by have := HBx.out; unfold inB at this; rw [decide_eq_true h] at this; cases this)
      clear HBx
      go_wp2_with fail
      go_meet
      exact ⟨by rw [e], HS2⟩
    | true =>
      have h01 : 0 ≤ x ∧ x ≤ 4611686018427387904 := of_decide_eq_true HBx.out
      have e := numX_in h01.1 h01.2
      have c0 := HS2.out.c0
      clear HBx
      go_wp2_with fail
      refine (rnum_v x h01.1 h01.2 _).mono ?_
      rintro e w3 ⟨rfl, hd⟩
      have HS3 := Lib.hid (HS2.out.on hd)
      clear hd HS2
      go_wp2_with fail
      go_meet
      exact ⟨by rw [e], HS3⟩
  case rest =>
  obtain ⟨rfl, HS3⟩ := hcut
  clear HS2 HBx
  generalize wc = w3 at *
  go_upto_region 6 with fail
  obtain ⟨b_y, hby⟩ : ∃ b, inB y = b := ⟨_, rfl⟩
  have HBy := Lib.hid hby
  clear hby
  go_cut [43] (fun v43 wc => v43 = .bool b_y ∧ w3 = wc)
  case first =>
    have c0 := HS3.out.c1
    by_cases h0 : 0 ≤ y
    · have t0 : decide (y ≥ 0) = true := decide_eq_true h0
      have t0b : decide (0 ≤ y) = true := decide_eq_true h0
      by_cases h1 : y ≤ 4611686018427387904
      · have t1 : decide (y ≤ 4611686018427387904) = true := decide_eq_true h1
        obtain rfl : b_y = true := by rw [← HBy.out]; unfold inB; rw [decide_eq_true ⟨h0, h1⟩]
        clear h0 h1 HBy
        go_wp2_with fail
        go_meet
        exact ⟨rfl, rfl⟩
      · have t1 : decide (y ≤ 4611686018427387904) = false := decide_eq_false h1
        obtain rfl : b_y = false := by rw [← HBy.out]; unfold inB; rw [decide_eq_false (fun h => h1 h.2)]
        clear h0 h1 HBy
        go_wp2_with fail
        go_meet
        exact ⟨rfl, rfl⟩
    · have t0 : decide (y ≥ 0) = false := decide_eq_false h0
      have t0b : decide (0 ≤ y) = false := decide_eq_false h0
      obtain rfl : b_y = false := by rw [← HBy.out]; unfold inB; rw [decide_eq_false (fun h => h0 h.1)]
      clear h0 HBy
      go_wp2_with fail
      go_meet
      exact ⟨rfl, rfl⟩
  case rest =>
  obtain ⟨rfl, rfl⟩ := hcut
  obtain ⟨n1, hn1⟩ : ∃ n1, numX x = n1 := ⟨_, rfl⟩
  obtain ⟨n2, hn2⟩ : ∃ n2, numX y = n2 := ⟨_, rfl⟩
  have l1 := numX_le x
  have l2 := numX_le y
  rw [hn1] at l1
  rw [hn2] at l2
  have HN1 := Lib.hid hn1
  have HN2 := Lib.hid hn2
  (try rw [hn1])
  clear hn1 hn2
  go_upto_if 43 with fail
  go_cut [5] (fun v5 wc => v5 = .string (n1 ++ n2) ∧ Hid (Bs W wc B x y z))
  case first =>
    cases b_y with
    | false =>
      have e : n2 = ⟨#[]⟩ := by rw [← HN2.out]; exact numX_out (fun h => by have := HBy.out; unfold inB at this; rw [decide_eq_true h] at this; cases this)
      clear HBy
      go_wp2_with fail
      go_meet
      exact ⟨by rw [e, app_empty], HS3⟩
    | true =>
      have h01 : 0 ≤ y ∧ y ≤ 4611686018427387904 := of_decide_eq_true HBy.out
      have e := numX_in h01.1 h01.2
      rw [HN2.out] at e
      have c0 := HS3.out.c1
      have k0 : (9223372036854775807 < n1.size + n2.size) = False := eq_false (by omega)
      clear HBy
      go_wp2_with fail
      refine (rnum_v y h01.1 h01.2 _).mono ?_
      rintro e w4 ⟨rfl, hd⟩
      have HS4 := Lib.hid (HS3.out.on hd)
      rw [← e]
      clear e
      clear hd HS3
      go_wp2_with fail
      go_meet
      exact ⟨rfl, HS4⟩
  case rest =>
  obtain ⟨rfl, HS4⟩ := hcut
  clear HS3 HBy
  generalize wc = w4 at *
  go_step
  exact part2 x y z s W B hB HZ hlen n1 n2 l1 l2 HN1 HN2 _ HS4
end Go.Proofs.YtkkikhbenhkfcaaDoor.RowBlobRefs

