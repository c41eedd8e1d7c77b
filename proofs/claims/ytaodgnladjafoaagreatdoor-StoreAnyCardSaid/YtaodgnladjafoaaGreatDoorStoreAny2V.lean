/- Words that the proof uses. -/
import Derived.Test.YtaodgnladjafoaaGreatDoorStoreAny1V
set_option linter.unusedVariables false
set_option linter.unusedSimpArgs false
namespace Go.Proofs.YtaodgnladjafoaaGreatDoor.Sto
open Go.RowKit Go.Proofs.YtaodgnladjafoaaGreatDoorW.PrintWords Go.Proofs.YtaodgnladjafoaaGreatDoorW.PrintLast Go.Proofs.YtaodgnladjafoaaGreatDoorW.PrintMore Go.Proofs.YtaodgnladjafoaaGreatDoor.Md Go.Proofs.YtaodgnladjafoaaGreatDoor.Mni Go.Proofs.YtaodgnladjafoaaGreatDoor.QStoreLasts
open Go.Proofs.YtaodgnladjafoaaGreatDoor.Dk (Dsk IsD Ft mayN rd)
open Go.Proofs.YtaodgnladjafoaaGreatDoor.Slt (Sl switched bestOf slA)
open Go.Proofs.YtaodgnladjafoaaGreatDoor.Err (Laid IsErr code_nil code_c Chain at_some at_nil)
structure Dz (d : Dsk) (k : Nat) : Prop where
  dn : d.down = false
  sz : d.size = 40
  bu : d.budget = -1
  so : d.soft.length ≤ k
theorem may_ofA {d : Dsk} {i : Int} (h : d.down = false) (h0 : 0 ≤ i) (h1 : i < d.size) : mayN d i = 0 := by
  unfold mayN
  rw [h, if_neg (by decide), if_neg (by omega)]
noncomputable def any_fmt_code : Code := tlA 9 ((Tryz.f5.body).getD .skip)
set_option maxHeartbeats 16000000 in
set_option maxRecDepth 100000 in
theorem any_fmt {c0 c1 c2 c3 c4 c5 c6 c9 c11 c12 c13 c14 c15 c16 c17 c18 c19 c20 c21 c22 c23 c24 c25 c26 c27 c28 c29 c30 c31 c32 c33 c34 c35 c36 c37 c38 c39 c40 c41 c42 c43 c44 c45 c46 c47 c48 c49 c50 c51 c52 c53 c54 c55 c56 c57 c58 c59 c60 c61 c62 c63 c64 c65 c66 c67 c68 c69 c70 c71 c72 c73 c74 c75 c76 c77 c78 c79 c80 c81 c82 c83 c84 c85 c86 c87 c88 c89 c90 c91 c92 c93 c94 c95 c96 c97 c98 c99 c100 c101 c102 c103 c104 c105 c106 c107 c108 c109 c110 c111 c112 c113 c114 c115 c116 c117 c118 c119 c120 c121 c122 c123 c124 c125 c126 c127 c128 c129 c130 c131 c132 c133 c134 c135 c136 c137 c138 c139 c140 c141 c142 c143 c144 c145 c146 c147 c148 c149 c150 c151 c152 c153 c154 c155 c156 c157 c158 c159 c160 c161 c162 c163 c164 c165 c166 c167 c168 c169 c170 c171 c172 c173 c174 c175 c176 c177 c178 c179 c180 c181 c182 c183 c184 c185 c186 c187 c188 c189 c190 c191 c192 c193 c194 c195 c196 c197 c198 c199 c200 c201 c202 c203 c204 c205 c206 c207 c208 c209 c210 c211 c212 c213 : Value} (W w0 : World) (X R M : Nat) (v : Value) (d : Dsk) (hz : Dz d 100) (HLW : Hid (Laid W)) (HB0 : Hid (Below W.heap.size W w0)) (HX0 : Hid (w0.heap[X]? = some (Obj.cells (bestOf d 2).a 62 (0, 0)))) (hXn : ¬ Ft R M v X) (hfr : ∀ i, Ft R M v i → W.heap.size ≤ i) (HD0 : Hid (IsD w0 R M v d)) : Code.wp Tryz.prog any_fmt_code (bodyPost Tryz.prog Tryz.f5 fun e w' => e = Ending.returned (Value.bool true) ∧ Below W.heap.size W w') ⟨#[c0, c1, c2, c3, c4, c5, c6, .pointer (some ⟨R, 0, none⟩), .nilIface, c9, .pointer (some ⟨X, 0, none⟩), c11, c12, c13, c14, c15, c16, c17, c18, c19, c20, c21, c22, c23, c24, c25, c26, c27, c28, c29, c30, c31, c32, c33, c34, c35, c36, c37, c38, c39, c40, c41, c42, c43, c44, c45, c46, c47, c48, c49, c50, c51, c52, c53, c54, c55, c56, c57, c58, c59, c60, c61, c62, c63, c64, c65, c66, c67, c68, c69, c70, c71, c72, c73, c74, c75, c76, c77, c78, c79, c80, c81, c82, c83, c84, c85, c86, c87, c88, c89, c90, c91, c92, c93, c94, c95, c96, c97, c98, c99, c100, c101, c102, c103, c104, c105, c106, c107, c108, c109, c110, c111, c112, c113, c114, c115, c116, c117, c118, c119, c120, c121, c122, c123, c124, c125, c126, c127, c128, c129, c130, c131, c132, c133, c134, c135, c136, c137, c138, c139, c140, c141, c142, c143, c144, c145, c146, c147, c148, c149, c150, c151, c152, c153, c154, c155, c156, c157, c158, c159, c160, c161, c162, c163, c164, c165, c166, c167, c168, c169, c170, c171, c172, c173, c174, c175, c176, c177, c178, c179, c180, c181, c182, c183, c184, c185, c186, c187, c188, c189, c190, c191, c192, c193, c194, c195, c196, c197, c198, c199, c200, c201, c202, c203, c204, c205, c206, c207, c208, c209, c210, c211, c212, c213], []⟩ w0 := by
  conv => arg 2; whnf
  have hq0 := Slt.bestOf_nonneg d 2
  obtain ⟨q, hq⟩ : ∃ q, bestOf d 2 = q := ⟨_, rfl⟩
  have HQ := Lib.hid hq
  rw [hq] at HX0 hq0
  clear hq
  go_wp2_with fail
  refine (Format_g w0 R M v d HD0 (by rw [hz.sz]; decide) (by rw [hz.sz]; decide) (may_ofA hz.dn (by decide) (by rw [hz.sz]; decide)) (may_ofA hz.dn (by decide) (by rw [hz.sz]; decide)) (Lib.hid hz.dn) (Lib.hid hz.bu) (by have := hz.so; omega)).mono ?_
  rintro e w1 ⟨h, hm⟩
  rw [HQ.out] at h
  have HB1 := Lib.hid (HB0.out.trans (hm.below HB0.out.size (fun i hi f => by have := hfr i f; omega)))
  have HX1 := Lib.hid (hm.blk HX0.out hXn)
  have HL1 := Lib.hid (HLW.out.on HB1.out)
  clear hm HB0 HX0 HD0 HQ hXn hfr HLW
  have cx := Err.cell_of_blk HX1.out 0
  have cx : w1.cell? ⟨X, 0, none⟩ = some (.int .u32 q.g) := cx
  rcases h with ⟨hg, Z, H, rfl, hZ, hH, hi⟩ | ⟨hg, T, u, rfl, he⟩
  · have t1 : (q.g == 4294967295) = false := beq_eq_false_iff_ne.2 (by omega)
    have HI := Lib.hid hi
    clear hi
    go_upto_if 105 with fail
    go_step
    go_step
    go_step
    go_step
    exact any_end W w1 X Z R M H d q hq0 hg HB1 HL1 HX1 HI
  · have t1 : (q.g == 4294967295) = true := by rw [hg]; rfl
    have HE := Lib.hid he
    clear he hg
    go_wp2_with fail
    refine (code_c _ 16 w1 HE HL1).mono ?_
    rintro e w2 ⟨rfl, hd⟩
    have HB2 := below_to HB1 (Nat.le_refl _) hd
    clear hd
    go_wp2_with fail
    go_ret
    exact ⟨rfl, HB2.out⟩
end Go.Proofs.YtaodgnladjafoaaGreatDoor.Sto
