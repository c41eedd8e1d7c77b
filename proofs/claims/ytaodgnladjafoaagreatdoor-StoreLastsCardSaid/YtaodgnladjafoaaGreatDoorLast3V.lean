/- Words that the proof uses. -/
import Derived.Test.YtaodgnladjafoaaGreatDoorKeepsV
set_option linter.unusedVariables false
set_option linter.unusedSimpArgs false
namespace Go.Proofs.YtaodgnladjafoaaGreatDoor.Sto
open Go.RowKit Go.Proofs.YtaodgnladjafoaaGreatDoorW.PrintWords Go.Proofs.YtaodgnladjafoaaGreatDoorW.PrintLast Go.Proofs.YtaodgnladjafoaaGreatDoorW.PrintMore Go.Proofs.YtaodgnladjafoaaGreatDoor.Md Go.Proofs.YtaodgnladjafoaaGreatDoor.Mni Go.Proofs.YtaodgnladjafoaaGreatDoor.QStoreLasts
open Go.Proofs.YtaodgnladjafoaaGreatDoor.Dk (Dsk IsD Ft mayN rd stl bit Pg)
open Go.Proofs.YtaodgnladjafoaaGreatDoor.Slt (Sl switched flushed bestOf slotOf pick)
open Go.Proofs.YtaodgnladjafoaaGreatDoor.Err (Laid IsErr code_nil code_c Chain at_some at_nil)
def nv : List Nat → Code → Code
  | [], c => c
  | 0 :: l, .seq a _ => nv l a
  | 1 :: l, .seq _ b => nv l b
  | 2 :: l, .cond _ a _ => nv l a
  | 3 :: l, .cond _ _ b => nv l b
  | 4 :: l, .block _ b => nv l b
  | 5 :: l, .loop b => nv l b
  | _, c => c
def xa (x : Ac) : Array Value := #[.int .u8 x.f0, .string x.f1, .int .u8 x.f2, .int .u64 x.f3]
structure Xk (w : World) (q : Pl) (X : Nat) (x : Ac) : Prop where
  b : w.heap[X]? = some (Obj.cells (xa x) 71 (0, 0))
  n : ¬ Fs q X
theorem Xk.on {w w1 : World} {q : Pl} {X : Nat} {x : Ac} (h : Xk w q X x) (k : Below w.heap.size w w1) : Xk w1 q X x := ⟨(blk_to (Lib.hid h.b) k).out, h.n⟩
theorem Xk.step {w w1 : World} {q q1 : Pl} {X : Nat} {x : Ac} (h : Xk w q X x) (k : Stp w q w1 q1) : Xk w1 q1 X x :=
  have z := k.out (Err.lt_of_block h.b) h.n
  ⟨z.2.trans h.b, z.1⟩
theorem Xk.grown {w w1 : World} {q : Pl} {X : Nat} {x : Ac} (h : Xk w q X x) {α : Type} {d : Kd α} {e : Nat} {u : Value} {xs : List α} (hr : d.R e w 0 (fun _ => True) u xs) (he : e ≠ 71) (hg : w.grownBy w1 u.ownBlock) : Xk w1 q X x :=
  ⟨(hg.block X (Err.lt_of_block h.b) (fun e2 => by
    obtain ⟨c, hc⟩ := Kd.R_typed hr X e2.symm
    rw [h.b] at hc
    simp at hc
    exact he hc.2.symm)).trans h.b, h.n⟩
theorem infoSt : (Tryz.prog.info? 9).map (fun i => (i.zero, i.size, i.bytes)) = some (some (.string ⟨#[]⟩), 1, 16) := by kernel_rfl
theorem litS1 (t : ByteArray) (W : World) : (Instr.buildSlice 22 1 #[(0, .string t)]).run Tryz.prog W = .ok (.slice (some ⟨W.heap.size, 0, none⟩) 1 1) (W.alloc (.cells #[.string t] 9 (0, 0))) := by kernel_rfl
theorem exec_litS1 {a : Operand → Value} {o : Oper} {x : Operand} {t : ByteArray} (ho : o.op = .buildSlice 22 1 #[(0, x)]) (hx : a x = .string t) (W : World) : (execOp a o).run Tryz.prog W = .ok (.value (.slice (some ⟨W.heap.size, 0, none⟩) 1 1)) (W.alloc (.cells #[.string t] 9 (0, 0))) := by
  have h2 := litS1 t W
  unfold execOp
  simp only [ho]
  have e : (#[((0 : Nat), x)] : Array (Nat × Operand)).map (fun (y : Nat × Operand) => (y.1, a y.2)) = #[(0, .string t)] := by simp [hx]
  show (Sem.run _ (do let v ← Instr.buildSlice _ 1 (Array.map _ _); _) _) = _
  rw [e, Sem.run_bind, h2]
  rfl
theorem lit0_s {ρ : Operand → Value} {oo : Oper} (W : World) (ho : oo.op = .buildSlice 22 0 #[]) : (execOp ρ oo).run Tryz.prog W = .ok (.value (.slice (some ⟨W.heap.size, 0, none⟩) 0 0)) (W.alloc (.cells #[] 9)) := by
  unfold execOp; simp only [ho]; kernel_rfl
theorem C_one {w : World} {g : Nat} {t : ByteArray} (h : w.heap[g]? = some (Obj.cells #[.string t] 9 (0, 0))) : Kd.C Kd.string w (some ⟨g, 0, none⟩) 1 [t] :=
  ⟨rfl, by decide, fun _ => ⟨⟨g, 0, none⟩, rfl, fun j p hj => ⟨[.string p], rfl, rfl, fun i u hu => by
    rcases j with _ | j
    · cases hj
      rcases i with _ | i
      · cases hu
        exact Err.cell_of_blk h 0
      · simp at hu
    · simp at hj⟩⟩⟩
theorem gen_s (Z R M H : Nat) (v p : Value) (o : Mni.Loc) (m : Man) (s : St) (g : Int) (w : World) (h : Hid (IsS w ⟨Z, R, M, H, v, p⟩ o m s)) (hg : s.gen = g) :
    Calls Tryz.prog 15 #[.pointer (some ⟨Z, 0, none⟩)] w fun e w' => e = .returned (.int .u32 g) ∧ Below w.heap.size w w' := by
  subst hg
  exact Gen_c Z R M H v p o m s w h
structure Mq (w : World) (q : Pl) (B : Nat) (o : Mni.Loc) (m : Man) : Prop where
  k : w.heap[B]? = some (Obj.cells (Loc.a o m) 43 (0, 0))
  n : ¬ Fs q B
  m : ManOut w q o m
theorem Mq.on {w w' : World} {q : Pl} {B : Nat} {o : Mni.Loc} {m : Man} (h : Mq w q B o m) (k : Below w.heap.size w w') : Mq w' q B o m := ⟨(blk_to (Lib.hid h.k) k).out, h.n, h.m.on k⟩
theorem Mq.step {w w' : World} {q q' : Pl} {B : Nat} {o : Mni.Loc} {m : Man} (h : Mq w q B o m) (k : Stp w q w' q') : Mq w' q' B o m :=
  have z := k.out (Err.lt_of_block h.k) h.n
  ⟨z.2.trans h.k, z.1, h.m.of k⟩
def Rx {α : Type} (w : World) (q : Pl) (d : Kd α) (A : Option Addr) (n : Nat) (xs : List α) : Prop := Kd.F d w (fun k => ¬ Fs q k) A n xs
theorem Rx.on {α : Type} {w w' : World} {q : Pl} {d : Kd α} {A : Option Addr} {n : Nat} {xs : List α} (h : Rx w q d A n xs) (k : Below w.heap.size w w') : Rx w' q d A n xs := F_re h k.size (fun i hl hp => ⟨hp, k.block i hl⟩)
theorem Rx.step {α : Type} {w w' : World} {q q' : Pl} {d : Kd α} {A : Option Addr} {n : Nat} {xs : List α} (h : Rx w q d A n xs) (k : Stp w q w' q') : Rx w' q' d A n xs := F_re h k.mod.size (fun i hl hp => k.out hl hp)
abbrev Nx (W : World) (R M N j n m0 : Nat) (A0 : Option Addr) (Q : Exit → Act → World → Prop) (c0 c2 c3 c6 c8 c26 c27 c28 c29 c30 c31 c32 c33 c34 c35 c36 c37 c38 c39 c40 c41 c42 c43 c44 c45 c46 c47 c48 c49 c50 c51 c52 c53 : Value) : Prop := (∀ c (a : Act) (t : Nat) v w, Q (.panic c) (a.put (some t) v) w → Q (.panic c) a w) ∧ (∀ {d4 d14 d15 d16 d17 d18 d19 d20 d21 d22 d23 d24 d25 d54 d55 d56 d57 d58 d59 d60 d61 d62 d63 d64 d65 d66 d67 d68 d69 d70 d71 d72 d73 d74 d75 d76 d77 d78 d79 d80 d81 d82 d83 d84 d85 d86 d87 d88 d89 d90 d91 d92 d93 d94 d95 d96 d97 d98 d99 d100 d101 d102 d103 d104 d105 d106 d107 d108 d109 d110 d111 d112 d113 d114 d115 d116 d117 d118 d119 d120 d121 d122 d123 d124 d125 d126 d127 d128 d129 d130 d131 d132 d133 d134 d135 d136 d137 d138 d139 d140 d141 d142 d143 d144 d145 d146 d147 d148 d149 d150 d151 d152 d153 d154 d155 d156 d157 d158 d159 d160 d161 d162 d163 d164 d165 d166 d167 d168 d169 d170 d171 d172 d173 d174 d175 d176 d177 d178 d179 d180 d181 d182 d183 d184 d185 d186 d187 d188 d189 d190 d191 d192 d193 d194 d195 d196 d197 d198 d199 d200 d201 d202 d203 d204 d205 d206 d207 d208 d209 d210 d211 d212 d213 d214 d215 d216 d217 d218 d219 d220 d221 d222 d223 : Value} {w' : World} {Z' H' : Nat} {v' p' : Value} {o' : Mni.Loc} {s' : St} {rs' : List Rf} {ts' : List ByteArray} {pt' : List Rf} {fs' : List ByteArray} {A9' : Option Addr} {c9' : Nat} {A11' : Option Addr} {c11' : Nat} {u10' u12' : Value}, Lv W w' ⟨Z', R, M, H', v', p'⟩ o' s' rs' ts' pt' fs' A9' c9' A11' c11' u10' u12' → Vl N s' rs' ts' pt' fs' (j + 1) → Q .normal ⟨#[c0, .slice A0 n m0, c2, c3, d4, .pointer (some ⟨R, 0, none⟩), c6, (.pointer (some ⟨Z', 0, none⟩)), c8, (.slice A9' rs'.length c9'), u10', (.slice A11' ts'.length c11'), u12', .int .i64 (j : Int), d14, d15, d16, d17, d18, d19, d20, d21, d22, d23, d24, d25, c26, c27, c28, c29, c30, c31, c32, c33, c34, c35, c36, c37, c38, c39, c40, c41, c42, c43, c44, c45, c46, c47, c48, c49, c50, c51, c52, c53, d54, d55, d56, d57, d58, d59, d60, d61, d62, d63, d64, d65, d66, d67, d68, d69, d70, d71, d72, d73, d74, d75, d76, d77, d78, d79, d80, d81, d82, d83, d84, d85, d86, d87, d88, d89, d90, d91, d92, d93, d94, d95, d96, d97, d98, d99, d100, d101, d102, d103, d104, d105, d106, d107, d108, d109, d110, d111, d112, d113, d114, d115, d116, d117, d118, d119, d120, d121, d122, d123, d124, d125, d126, d127, d128, d129, d130, d131, d132, d133, d134, d135, d136, d137, d138, d139, d140, d141, d142, d143, d144, d145, d146, d147, d148, d149, d150, d151, d152, d153, d154, d155, d156, d157, d158, d159, d160, d161, d162, d163, d164, d165, d166, d167, d168, d169, d170, d171, d172, d173, d174, d175, d176, d177, d178, d179, d180, d181, d182, d183, d184, d185, d186, d187, d188, d189, d190, d191, d192, d193, d194, d195, d196, d197, d198, d199, d200, d201, d202, d203, d204, d205, d206, d207, d208, d209, d210, d211, d212, d213, d214, d215, d216, d217, d218, d219, d220, d221, d222, d223], []⟩ w')
variable {c0 c2 c3 c4 c6 c8 c14 c15 c16 c17 c18 c19 c20 c21 c22 c23 c24 c25 c26 c27 c28 c29 c30 c31 c32 c33 c34 c35 c36 c37 c38 c39 c40 c41 c42 c43 c44 c45 c46 c47 c48 c49 c50 c51 c52 c53 c54 c55 c56 c57 c58 c59 c60 c61 c62 c63 c64 c65 c66 c67 c68 c69 c70 c71 c72 c73 c74 c75 c76 c77 c78 c79 c80 c81 c82 c83 c84 c85 c86 c87 c88 c89 c90 c91 c92 c93 c94 c95 c96 c97 c98 c99 c100 c101 c102 c103 c104 c105 c106 c107 c108 c109 c110 c111 c112 c113 c114 c115 c116 c117 c118 c119 c120 c121 c122 c123 c124 c125 c126 c127 c128 c129 c130 c131 c132 c133 c134 c135 c136 c137 c138 c139 c140 c141 c142 c143 c144 c145 c146 c147 c148 c149 c150 c151 c152 c153 c154 c155 c156 c157 c158 c159 c160 c161 c162 c163 c164 c165 c166 c167 c168 c169 c170 c171 c172 c173 c174 c175 c176 c177 c178 c179 c180 c181 c182 c183 c184 c185 c186 c187 c188 c189 c190 c191 c192 c193 c194 c195 c196 c197 c198 c199 c200 c201 c202 c203 c204 c205 c206 c207 c208 c209 c210 c211 c212 c213 c214 c215 c216 c217 c218 c219 c220 c221 c222 c223 : Value}
noncomputable def br2b_code : Code := nv [1, 1, 1, 1, 1, 1, 1, 0, 1, 4, 5, 1, 0, 4, 1, 0, 1, 4, 1, 2, 1, 1] ((Tryz.f6.body).getD .skip)
set_option maxHeartbeats 16000000 in
set_option maxRecDepth 100000 in
theorem br2b (W w0 : World) (Z R M H : Nat) (v p : Value) (o : Mni.Loc) (N : Nat) (s : St) (rs : List Rf) (ts : List ByteArray) (pt : List Rf) (fs : List ByteArray) (A9 : Option Addr) (c9 : Nat) (A11 : Option Addr) (c11 : Nat) (u10 u12 : Value) (A0 : Option Addr) (n m0 j X : Nat) (x : Ac) (hx : AcW x) (hk : j ≤ 29) (HLW : Hid (Laid W)) (HL0 : Hid (Lv W w0 ⟨Z, R, M, H, v, p⟩ o s rs ts pt fs A9 c9 A11 c11 u10 u12)) (hV : Hid (Vl N s rs ts pt fs j)) (HX0 : True) (A15 : Option Addr) (m5 : Nat) (A16 : Option Addr) (m6 n5 D : Nat) (HR0 : Hid (Rx w0 ⟨Z, R, M, H, v, p⟩ rk A15 n5 ((rs ++ pt).drop D))) (HT0 : Hid (Rx w0 ⟨Z, R, M, H, v, p⟩ Kd.string A16 n5 ((ts ++ fs).drop D))) (hm5 : n5 ≤ m5) (hm6 : n5 ≤ m6) (Q : Exit → Act → World → Prop) (HQ : Hid (Nx W R M N j n m0 A0 Q c0 c2 c3 c6 c8 c26 c27 c28 c29 c30 c31 c32 c33 c34 c35 c36 c37 c38 c39 c40 c41 c42 c43 c44 c45 c46 c47 c48 c49 c50 c51 c52 c53)) : Code.wp Tryz.prog br2b_code Q ⟨#[c0, .slice A0 n m0, c2, c3, c4, .pointer (some ⟨R, 0, none⟩), c6, .pointer (some ⟨Z, 0, none⟩), c8, .slice A9 rs.length c9, u10, .slice A11 ts.length c11, u12, .int .i64 (j : Int), c14, .slice A15 n5 m5, .slice A16 n5 m6, c17, c18, c19, c20, c21, c22, c23, c24, c25, c26, c27, c28, c29, c30, c31, c32, c33, c34, c35, c36, c37, c38, c39, c40, c41, c42, c43, c44, c45, c46, c47, c48, c49, c50, c51, c52, c53, c54, c55, c56, c57, c58, c59, c60, c61, c62, c63, c64, c65, c66, c67, c68, c69, c70, c71, c72, c73, c74, c75, c76, c77, c78, c79, c80, c81, c82, c83, c84, c85, c86, c87, c88, c89, c90, c91, c92, c93, c94, c95, c96, c97, c98, c99, c100, c101, c102, c103, c104, c105, c106, c107, c108, c109, c110, c111, c112, c113, c114, c115, c116, c117, c118, c119, c120, c121, c122, c123, c124, c125, c126, c127, c128, c129, c130, c131, c132, c133, c134, c135, c136, c137, c138, c139, c140, c141, c142, c143, c144, c145, c146, c147, c148, c149, c150, c151, c152, c153, c154, c155, c156, c157, c158, c159, c160, c161, c162, c163, c164, c165, c166, c167, c168, c169, c170, c171, c172, c173, c174, c175, c176, c177, c178, c179, c180, c181, c182, c183, c184, c185, c186, c187, c188, c189, c190, c191, c192, c193, c194, c195, c196, c197, c198, c199, c200, c201, c202, c203, c204, c205, c206, c207, c208, c209, c210, c211, c212, c213, c214, c215, c216, c217, c218, c219, c220, c221, c222, c223], []⟩ w0 := by
  conv => arg 2; whnf
  have hcut := hV.out.g.cut D
  have hlen := Kd.F_len HR0.out
  have hlt6 := Kd.F_len HT0.out
  have hgl := hV.out.ge
  have q5 : IntKind.u32.wrap (s.gen + 1) = s.gen + 1 := IntWalk.u32_in _ (by have := hV.out.g.rt.g0; have : 0 < s.gen := this; omega)
  have tg : (s.gen != s.gen) = false := by simp
  have tg1 : (s.gen + 1 != s.gen + 1) = false := by simp
  clear HX0
  try dsimp only
  go_wp2_with fail
  refine (with_a A15 n5 m5 ((rs ++ pt).drop D) w0 hlen hm5 (Kd.F_now HR0.out)).mono ?_
  rintro e w1 ⟨o1, rfl, hO, hd⟩
  obtain ⟨rs2, hrs2⟩ : ∃ rs2, ((rs ++ pt).drop D).take 8 = rs2 := ⟨_, rfl⟩
  obtain ⟨ts2, hts2⟩ : ∃ ts2, ((ts ++ fs).drop D).take rs2.length = ts2 := ⟨_, rfl⟩
  rw [hrs2] at hcut hO
  rw [hts2] at hcut
  rw [hrs2]
  obtain ⟨hsub, hap, h8, htl, htx⟩ := hcut
  have hk2 : rs2.length ≤ n5 := by rw [← hrs2, List.length_take, hlen]; omega
  have hlt := HL0.out.run.is.lt
  have HA1 := Lib.hid (show ManOut w1 ⟨Z, R, M, H, v, p⟩ o1 (withM rs2) from fun w2 h2 _ => (hO.step (fun i hi hl => h2 i hl (fun f => by have := hlt i f; omega))).at_)
  have h9 : Rx w1 ⟨Z, R, M, H, v, p⟩ rk o1.p0 rs2.length rs2 := Kd.F_mono hO.1 (fun i hi f => by have := hlt i f; omega)
  have hl9 : rs2.length ≤ o1.c0 := hO.2.2.2.1
  have HTx := Lib.hid (show Rx w0 ⟨Z, R, M, H, v, p⟩ Kd.string A16 ts2.length ts2 by
    have z := HT0.out
    have hz : ((ts ++ fs).drop D).length = n5 := hlt6
    rw [← hz] at z
    have z2 := Kd.F_take z (m := rs2.length) (by rw [hz]; exact hk2)
    rw [hts2] at z2
    exact z2)
  have HQ2 := Lib.hid (And.intro hsub (And.intro hap (And.intro htl htx)))
  clear HR0
  have HT0b := HTx
  clear HT0
  have HT0 := HT0b
  clear HT0b HTx
  have HL1 := Lib.hid (HL0.out.on hd)
  have HT1 := Lib.hid (HT0.out.on hd)
  have HN1 := Lib.hid h9
  clear hd hO hlt h9 hrs2 hts2 hlt6 hlen hsub hap htl htx HL0 HT0
  try dsimp only
  go_upto_region 23 with (first | (refine wl_allocM rfl rfl ?_) | (refine wl_storeMn #[.slice none 0 0, .slice none 0 0, .int .i64 0, .slice none 0 0] rfl o1 (withM rs2) rfl _ _ rfl rfl rfl ?_))
  have hd : Below w1.heap.size w1 (w1.alloc (Obj.cells (Loc.a o1 (withM rs2)) 43 (0, 0))) := (Below.refl _ _).alloc (Nat.le_refl _) _
  have hb0 := heap_alloc_last w1 (Obj.cells (Loc.a o1 (withM rs2)) 43 (0, 0))
  have hl0 := HL1.out.run.is.lt
  have HL2 := Lib.hid (HL1.out.on hd)
  have HT2 := Lib.hid (HT1.out.on hd)
  have HN2 := Lib.hid (HN1.out.on hd)
  obtain ⟨B, hB⟩ : ∃ B, w1.heap.size = B := ⟨_, rfl⟩
  rw [hB] at hb0 hl0
  try simp only [hB]
  have HM2 := Lib.hid (show Mq (w1.alloc (Obj.cells (Loc.a o1 (withM rs2)) 43 (0, 0))) ⟨Z, R, M, H, v, p⟩ B o1 (withM rs2) from ⟨hb0, fun f => Nat.lt_irrefl _ (hl0 B f), HA1.out.on hd⟩)
  generalize (w1.alloc (Obj.cells (Loc.a o1 (withM rs2)) 43 (0, 0))) = w2 at *
  clear hd hb0 hl0 hB HA1 HL1 HT1 HN1
  try dsimp only
  go_wp2_with fail
  refine (gen_s Z R M H _ _ o _ _ s.gen w2 (Lib.hid HL2.out.run.is) rfl).mono ?_
  rintro e w3 ⟨rfl, hd⟩
  have HL3 := Lib.hid (HL2.out.on hd)
  have HT3 := Lib.hid (HT2.out.on hd)
  have HN3 := Lib.hid (HN2.out.on hd)
  have HM3 := Lib.hid (HM2.out.on hd)
  clear hd HL2 HT2 HN2 HM2
  try dsimp only
  go_wp2_with (first | (refine wl_loadM B o1 (withM rs2) HM3.out.k rfl _ rfl rfl ?_))
  refine (switch_l Z R M H v p o o1 rs2 ts2 j w3 (Lib.hid HL3.out.run.is) hV hk HQ2.out.1 HQ2.out.2.1 h8 HQ2.out.2.2.1 HQ2.out.2.2.2 (Lib.hid HM3.out.m)).mono ?_
  rintro e w4 (⟨rfl, o2, s2, hi, hg2, hV2, hs⟩ | ⟨T, u, rfl, ⟨k, he, hk0⟩, v2, p2, s2, hg2, hi, hV2, hs⟩)
  · have hrun := HL3.out.run.step hs hi
    have HT4 := Lib.hid (HT3.out.step hs)
    have HN4 := Lib.hid (HN3.out.step hs)
    have HM4 := Lib.hid (HM3.out.step hs)
    have HU4 := Lib.hid hrun
    clear hi hs hrun HQ2 HL3 HT3 HN3 HM3
    have htl : ts2.length = rs2.length := hV2.g.tl
    try dsimp only
    go_wp2_with fail
    refine (code_nil w4).mono ?_
    rintro e w5 ⟨rfl, hd⟩
    have HT5 := Lib.hid (HT4.out.on hd)
    have HN5 := Lib.hid (HN4.out.on hd)
    have HM5 := Lib.hid (HM4.out.on hd)
    have HU5 := Lib.hid (HU4.out.on hd)
    clear hd HT4 HN4 HM4 HU4
    try dsimp only
    go_upto_region 26 with fail
    have hd : Below w5.heap.size w5 (World.drew w5) := (Below.refl _ _).drew
    have HT6 := Lib.hid (HT5.out.on hd)
    have HN6 := Lib.hid (HN5.out.on hd)
    have HM6 := Lib.hid (HM5.out.on hd)
    have HU6 := Lib.hid (HU5.out.on hd)
    have cB := fun {w1 : World} (h : w1.heap[B]? = some (Obj.cells (Loc.a o1 (withM rs2)) 43 (0, 0))) => (show w1.cell? ⟨B, 0, none⟩ = some (.slice o1.p0 rs2.length o1.c0) from Err.cell_of_blk h 0)
    have z1 : (withM rs2).refs.length ≤ 1000000 := by show rs2.length ≤ 1000000; omega
    have z2 : (withM rs2).stack.length ≤ 1000000 := by show (upTo rs2.length).length ≤ 1000000; rw [upTo_len]; omega
    have p1 : (0 ≤ (rs2.length : Int)) = True := eq_true (by omega)
    have p2 : ((rs2.length : Int) ≤ (m6 : Int)) = True := eq_true (by omega)
    have p3 : (rs2.length ≤ m6) = True := eq_true (by omega)
    refine start_ (n := 9) (S := fun w' => w'.cell? ⟨B, 0, none⟩ = some (.slice o1.p0 rs2.length o1.c0)) (ds := []) (bzz 9 0) (by kernel_rfl) rfl rfl ((cB HM6.out.k)) (fun hHeld => ?_)
    refine rpz 0 115 ?_ (bzz 9 1) rfl rfl ?_ ?_ ?_ ?_ (hQ := fun c a w h => HQ.out.1 c a _ _ w h)
    rotate_left
    · intro w'
      go_simp
      with_reducible rfl
    rotate_left
    · simp only [zaP, zsA, zsZ, zsS, i64_w, i32_w]
      rfl
    refine rpz 2 117 ?_ (bzz 9 5) rfl rfl ?_ ?_ ?_ ?_ (hQ := fun c a w h => HQ.out.1 c a _ _ w h)
    rotate_left
    · intro w'
      go_simp
      with_reducible rfl
    rotate_left
    · simp only [zaP, zsA, zsZ, zsS, i64_w, i32_w]
      rfl
    refine rpz 3 118 ?_ (bzz 9 13) rfl rfl ?_ ?_ ?_ ?_ (hQ := fun c a w h => HQ.out.1 c a _ _ w h)
    rotate_left
    · intro w'
      go_simp
      with_reducible rfl
    rotate_left
    · simp only [zaP, zsA, zsZ, zsS, i64_w, i32_w]
      rfl
    refine rtz 1 116 ?_ (bzz 9 15) rfl rfl hHeld ?_ ?_ ?_ ?_ (hQ := fun c a w h => HQ.out.1 c a _ _ w h)
    rotate_left
    · intro w' s0
      go_simp
      with_reducible rfl
    rotate_left
    · simp only [zaP, zsA, zsZ, zsS, i64_w, i32_w]
      rfl
    refine rpz 7 9 ?_ (bzz 9 143) rfl rfl ?_ ?_ ?_ ?_ (hQ := fun c a w h => HQ.out.1 c a _ _ w h)
    rotate_left
    · intro w'
      go_simp
      with_reducible rfl
    rotate_left
    · simp only [zaP, zsA, zsZ, zsS, i64_w, i32_w]
      rfl
    refine rtz 4 119 ?_ (bzz 9 159) rfl rfl hHeld ?_ ?_ ?_ ?_ (hQ := fun c a w h => HQ.out.1 c a _ _ w h)
    rotate_left
    · intro w' s0
      go_simp
      with_reducible rfl
    rotate_left
    · simp only [zaP, zsA, zsZ, zsS, i64_w, i32_w]
      rfl
    refine rpz 5 120 ?_ (bzz 9 191) rfl rfl ?_ ?_ ?_ ?_ (hQ := fun c a w h => HQ.out.1 c a _ _ w h)
    rotate_left
    · intro w'
      go_simp
      with_reducible rfl
    rotate_left
    · simp only [zaP, zsA, zsZ, zsS, i64_w, i32_w]
      rfl
    refine rpz 6 121 ?_ (bzz 9 255) rfl rfl ?_ ?_ ?_ ?_ (hQ := fun c a w h => HQ.out.1 c a _ _ w h)
    rotate_left
    · intro w'
      go_simp
      with_reducible rfl
    rotate_left
    · simp only [zaP, zsA, zsZ, zsS, i64_w, i32_w]
      rfl
    refine rpz 8 11 ?_ (bzz 9 511) rfl rfl ?_ ?_ ?_ ?_ (hQ := fun c a w h => HQ.out.1 c a _ _ w h)
    rotate_left
    · intro w'
      go_simp
      with_reducible rfl
    rotate_left
    · simp only [zaP, zsA, zsZ, zsS, i64_w, i32_w]
      rfl
    refine done_ (by kernel_rfl) ?_
    clear hHeld p1 p2 p3
    have e16 : (Value.slice A16 rs2.length m6) = .slice A16 ts2.length m6 := by rw [htl]
    try rw [e16]
    try dsimp only
    go_upto_region 28 with fail
    have hd : Below (World.drew w5).heap.size (World.drew w5) (World.drew (World.drew w5)) := (Below.refl _ _).drew
    have HT7 := Lib.hid (HT6.out.on hd)
    have HN7 := Lib.hid (HN6.out.on hd)
    have HM7 := Lib.hid (HM6.out.on hd)
    have HU7 := Lib.hid (HU6.out.on hd)
    refine start_ (n := 12) (S := fun w' => w'.heap[B]? = some (Obj.cells (Loc.a o1 (withM rs2)) 43 (0, 0))) (ds := []) (bzz 12 0) (by kernel_rfl) rfl rfl (HM7.out.k) (fun hHeld => ?_)
    refine rpz 0 122 ?_ (bzz 12 1) rfl rfl ?_ ?_ ?_ ?_ (hQ := fun c a w h => HQ.out.1 c a _ _ w h)
    rotate_left
    · intro w'
      go_simp
      with_reducible rfl
    rotate_left
    · simp only [zaP, zsA, zsZ, zsS, i64_w, i32_w]
      rfl
    refine rpz 2 124 ?_ (bzz 12 5) rfl rfl ?_ ?_ ?_ ?_ (hQ := fun c a w h => HQ.out.1 c a _ _ w h)
    rotate_left
    · intro w'
      go_simp
      with_reducible rfl
    rotate_left
    · simp only [zaP, zsA, zsZ, zsS, i64_w, i32_w]
      rfl
    refine rpz 3 125 ?_ (bzz 12 13) rfl rfl ?_ ?_ ?_ ?_ (hQ := fun c a w h => HQ.out.1 c a _ _ w h)
    rotate_left
    · intro w'
      go_simp
      with_reducible rfl
    rotate_left
    · simp only [zaP, zsA, zsZ, zsS, i64_w, i32_w]
      rfl
    refine roz 1 123 (bzz 12 15) rfl rfl (fun K hK => ?_)
    refine goes_ Tryz.func15 (by kernel_rfl) rfl #[.pointer (some ⟨Z, 0, none⟩)] (by rfl) rfl rfl (by simp only [List.map_toArray, List.map_cons, List.map_nil]; rfl) ?_
    with_reducible refine (gen_s Z R M H _ _ o2 _ s2 (s.gen + 1) _ (Lib.hid HU7.out.is) hg2).mono ?_
    rintro e w8 ⟨rfl, hd⟩
    refine ⟨_, rfl, ?_⟩
    have HT8 := Lib.hid (HT7.out.on hd)
    have HN8 := Lib.hid (HN7.out.on hd)
    have HM8 := Lib.hid (HM7.out.on hd)
    have HU8 := Lib.hid (HU7.out.on hd)
    clear hd HT7 HN7 HM7 HU7
    refine hK.out _ _ (HM8.out.k) (fun hHeld => ?_)
    clear hK K
    refine norm_ (a' := ?_) ?_ ?_
    rotate_left
    · show Act.put _ (some 123) _ = _
      simp only [zaP, zsA, zsZ, zsS, i64_w, i32_w]
      rfl
    refine rpz 4 126 ?_ (bzz 12 31) rfl rfl ?_ ?_ ?_ ?_ (hQ := fun c a w h => HQ.out.1 c a _ _ w h)
    rotate_left
    · intro w'
      go_simp
      with_reducible rfl
    rotate_left
    · simp only [zaP, zsA, zsZ, zsS, i64_w, i32_w]
      rfl
    refine rpz 5 127 ?_ (bzz 12 63) rfl rfl ?_ ?_ ?_ ?_ (hQ := fun c a w h => HQ.out.1 c a _ _ w h)
    rotate_left
    · intro w'
      go_simp
      with_reducible rfl
    rotate_left
    · simp only [zaP, zsA, zsZ, zsS, i64_w, i32_w]
      rfl
    refine rpz 6 128 ?_ (bzz 12 127) rfl rfl ?_ ?_ ?_ ?_ (hQ := fun c a w h => HQ.out.1 c a _ _ w h)
    rotate_left
    · intro w'
      go_simp
      with_reducible rfl
    rotate_left
    · simp only [zaP, zsA, zsZ, zsS, i64_w, i32_w]
      rfl
    refine rtz 8 130 ?_ (bzz 12 383) rfl rfl hHeld ?_ ?_ ?_ ?_ (hQ := fun c a w h => HQ.out.1 c a _ _ w h)
    rotate_left
    · intro w' s0
      refine (exec_loadM (x := .tmp 17) ?_ ?_  s0).trans ?_
      · rfl
      · rfl
      · with_reducible rfl
    rotate_left
    · simp only [zaP, zsA, zsZ, zsS, i64_w, i32_w]
      rfl
    refine roz 7 129 (bzz 12 511) rfl rfl (fun K hK => ?_)
    refine goes_ Tryz.func17 (by kernel_rfl) rfl #[.pointer (some ⟨Z, 0, none⟩)] (by rfl) rfl rfl (by simp only [List.map_toArray, List.map_cons, List.map_nil]; rfl) ?_
    with_reducible refine (Manifest_m Z R M H _ _ o2 (withM rs2) s2 _ (Lib.hid HU8.out.is) rfl z1 z2).mono ?_
    rintro e w9 ⟨o3, rfl, hat, hd⟩
    refine ⟨_, rfl, ?_⟩
    have HAt := Lib.hid hat
    have HT9 := Lib.hid (HT8.out.on hd)
    have HN9 := Lib.hid (HN8.out.on hd)
    have HM9 := Lib.hid (HM8.out.on hd)
    have HU9 := Lib.hid (HU8.out.on hd)
    clear hd hat HT8 HN8 HM8 HU8
    refine hK.out _ _ (HM9.out.k) (fun hHeld => ?_)
    clear hK K
    refine norm_ (a' := ?_) ?_ ?_
    rotate_left
    · show Act.put _ (some 129) _ = _
      simp only [zaP, zsA, zsZ, zsS, i64_w, i32_w]
      rfl
    refine roz 9 131 (bzz 12 1023) rfl rfl (fun K hK => ?_)
    refine goes_ Tryz.func16 (by kernel_rfl) rfl #[.agg (Loc.a o3 (withM rs2)), .agg (Loc.a o1 (withM rs2))] (by rfl) rfl rfl (by simp only [List.map_toArray, List.map_cons, List.map_nil]; rfl) ?_
    with_reducible refine (sameM_c o3 o1 (withM rs2) _ HAt.out HM9.out.m.at rfl z1 z2).mono ?_
    rintro e w10 ⟨rfl, hd⟩
    refine ⟨_, rfl, ?_⟩
    have HT10 := Lib.hid (HT9.out.on hd)
    have HN10 := Lib.hid (HN9.out.on hd)
    have HM10 := Lib.hid (HM9.out.on hd)
    have HU10 := Lib.hid (HU9.out.on hd)
    clear hd HT9 HN9 HM9 HU9
    refine hK.out _ _ (HM10.out.k) (fun hHeld => ?_)
    clear hK K
    refine norm_ (a' := ?_) ?_ ?_
    rotate_left
    · show Act.put _ (some 131) _ = _
      simp only [zaP, zsA, zsZ, zsS, i64_w, i32_w]
      rfl
    refine rpz 10 132 ?_ (bzz 12 2047) rfl rfl ?_ ?_ ?_ ?_ (hQ := fun c a w h => HQ.out.1 c a _ _ w h)
    rotate_left
    · intro w'
      go_simp
      with_reducible rfl
    rotate_left
    · simp only [zaP, zsA, zsZ, zsS, i64_w, i32_w]
      rfl
    refine rpz 11 133 ?_ (bzz 12 4095) rfl rfl ?_ ?_ ?_ ?_ (hQ := fun c a w h => HQ.out.1 c a _ _ w h)
    rotate_left
    · intro w'
      go_simp
      with_reducible rfl
    rotate_left
    · simp only [zaP, zsA, zsZ, zsS, i64_w, i32_w]
      rfl
    refine done_ (by kernel_rfl) ?_
    clear hHeld
    try dsimp only
    go_wp2_with fail
    exact HQ.out.2 (Lv.new (c9 := o1.c0) (c11 := m6) HU10.out HN10.out hl9 HT10.out (by omega)) hV2
  · have HE4 := Lib.hid he
    have HL4 := Lib.hid (HL3.out.step hs hi)
    have tk : (k == 0) = false := beq_eq_false_iff_ne.2 hk0
    clear he hk0 hi hs HQ2 HT3 HN3 HM3 HL3
    try dsimp only
    go_wp2_with fail
    refine (code_c _ k w4 HE4 (Lib.hid (HLW.out.on HL4.out.run.bel))).mono ?_
    rintro e w5 ⟨rfl, hd⟩
    have HL5 := Lib.hid (HL4.out.on hd)
    clear hd HL4 HE4
    try dsimp only
    go_wp2_with fail
    refine (gen_s Z R M H _ _ o _ s2 s.gen w5 (Lib.hid HL5.out.run.is) hg2).mono ?_
    rintro e w6 ⟨rfl, hd⟩
    have HL6 := Lib.hid (HL5.out.on hd)
    clear hd HL5
    try dsimp only
    go_wp2_with fail
    exact HQ.out.2 HL6.out hV2
noncomputable def br2_code : Code := nv [1, 1, 1, 1, 1, 1, 1, 0, 1, 4, 5, 1, 0, 4, 1, 0, 1, 4, 1, 2] ((Tryz.f6.body).getD .skip)
set_option maxHeartbeats 16000000 in
set_option maxRecDepth 100000 in
theorem br2 (W w0 : World) (Z R M H : Nat) (v p : Value) (o : Mni.Loc) (N : Nat) (s : St) (rs : List Rf) (ts : List ByteArray) (pt : List Rf) (fs : List ByteArray) (A9 : Option Addr) (c9 : Nat) (A11 : Option Addr) (c11 : Nat) (u10 u12 : Value) (A0 : Option Addr) (n m0 j X : Nat) (x : Ac) (hx : AcW x) (hk : j ≤ 29) (HLW : Hid (Laid W)) (HL0 : Hid (Lv W w0 ⟨Z, R, M, H, v, p⟩ o s rs ts pt fs A9 c9 A11 c11 u10 u12)) (hV : Hid (Vl N s rs ts pt fs j)) (HX0 : Hid (Xk w0 ⟨Z, R, M, H, v, p⟩ X x)) (Q : Exit → Act → World → Prop) (HQ : Hid (Nx W R M N j n m0 A0 Q c0 c2 c3 c6 c8 c26 c27 c28 c29 c30 c31 c32 c33 c34 c35 c36 c37 c38 c39 c40 c41 c42 c43 c44 c45 c46 c47 c48 c49 c50 c51 c52 c53)) : Code.wp Tryz.prog br2_code Q ⟨#[c0, .slice A0 n m0, c2, c3, c4, .pointer (some ⟨R, 0, none⟩), c6, .pointer (some ⟨Z, 0, none⟩), c8, .slice A9 rs.length c9, u10, .slice A11 ts.length c11, u12, .int .i64 (j : Int), .pointer (some ⟨X, 0, none⟩), c15, c16, c17, c18, c19, c20, c21, c22, c23, c24, c25, c26, c27, c28, c29, c30, c31, c32, c33, c34, c35, c36, c37, c38, c39, c40, c41, c42, c43, c44, c45, c46, c47, c48, c49, c50, c51, c52, c53, c54, c55, c56, c57, c58, c59, c60, c61, c62, c63, c64, c65, c66, c67, c68, c69, c70, c71, c72, c73, c74, c75, c76, c77, c78, c79, c80, c81, c82, c83, c84, c85, c86, c87, c88, c89, c90, c91, c92, c93, c94, c95, c96, c97, c98, c99, c100, c101, c102, c103, c104, c105, c106, c107, c108, c109, c110, c111, c112, c113, c114, c115, c116, c117, c118, c119, c120, c121, c122, c123, c124, c125, c126, c127, c128, c129, c130, c131, c132, c133, c134, c135, c136, c137, c138, c139, c140, c141, c142, c143, c144, c145, c146, c147, c148, c149, c150, c151, c152, c153, c154, c155, c156, c157, c158, c159, c160, c161, c162, c163, c164, c165, c166, c167, c168, c169, c170, c171, c172, c173, c174, c175, c176, c177, c178, c179, c180, c181, c182, c183, c184, c185, c186, c187, c188, c189, c190, c191, c192, c193, c194, c195, c196, c197, c198, c199, c200, c201, c202, c203, c204, c205, c206, c207, c208, c209, c210, c211, c212, c213, c214, c215, c216, c217, c218, c219, c220, c221, c222, c223], []⟩ w0 := by
  conv => arg 2; whnf
  obtain ⟨A10, c10, rfl, hc10, hC10⟩ := HL0.out.w10.c
  obtain ⟨A12, c12, rfl, hc12, hC12⟩ := HL0.out.w12.c
  have H10 := Lib.hid hC10
  have H12 := Lib.hid hC12
  have H9 := Lib.hid (Kd.F_now HL0.out.r9)
  have H11 := Lib.hid (Kd.F_now HL0.out.r11)
  have hpl := hV.out.pl
  have hrl := hV.out.g.rl
  have htl := hV.out.g.tl
  have hfl := hV.out.g.fl
  have hl2 : (ts ++ fs).length = (rs ++ pt).length := by rw [List.length_append, List.length_append, htl, hfl]
  have htb : ts.length ≤ 8 := by omega
  have hfb : fs.length ≤ 29 := by omega
  have HL2 := Lib.hid hl2
  clear hC10 hC12 HX0 htl hfl hl2
  try dsimp only
  go_upto_region 20 with (first
    | ((with_reducible refine gate_dst (N := 88) rfl ?_)
       refine Kd.R_lit rk (w0 := w0) w0.heap.size 36 rfl (N := 88) rfl (xs := ([] : List Rf)) (inner := []) (ok := fun _ => True) (okp := fun _ => True) (lit0_r w0 rfl) (Reps.none _ _) (fun _ h => h) trivial (Below.refl _ _) (Nat.le_refl _) (by simp) ?_
       intro v1 w1 ho hb hg1 hn1
       have HO1 := Lib.hid ho
       have HB1 := Lib.hid hb
       clear ho hb hg1 hn1)
    | (at_builtin
       refine Kd.R_append_rows rk (w0 := w0) w0.heap.size rfl (.tmp 88) (.tmp 89) 33 36 (.agg #[.int .i64 0, .int .i64 0, .int .u32 0]) 24 rfl Tryz.underlying33 infoR rfl (by decide) (by decide) v1 [] rs _ _ _ (fun _ => True) (fun _ => False) rfl rfl HO1.out (Kd.C_below H9.out HB1.out) (fun y cs hy => by have e := k36_open hy; subst e; exact k36_mkM _ _ _ _) (fun _ h => h.elim) (fun _ _ => trivial) HB1.out HB1.out.size (by show (0 + rs.length) * 24 ≤ 140737488355328; omega) ?_
       intro v2 w2 ho hb hg2 hn2
       rw [List.nil_append] at ho
       have HO2 := Lib.hid ho
       have HB2 := Lib.hid hb
       clear ho hb hg2 hn2)
    | (at_builtin
       refine Kd.R_append_rows rk (w0 := w0) w0.heap.size rfl (.tmp 90) (.tmp 91) 33 36 (.agg #[.int .i64 0, .int .i64 0, .int .u32 0]) 24 rfl Tryz.underlying33 infoR rfl (by decide) (by decide) v2 rs pt _ _ _ (fun _ => True) (fun _ => False) rfl rfl HO2.out (Kd.C_below H10.out HB2.out) (fun y cs hy => by have e := k36_open hy; subst e; exact k36_mkM _ _ _ _) (fun _ h => h.elim) (fun _ _ => trivial) HB2.out HB2.out.size (by show (rs.length + pt.length) * 24 ≤ 140737488355328; omega) ?_
       intro v3 w3 ho hb hg3 hn3
       have HO3 := Lib.hid ho
       have HB3 := Lib.hid hb
       clear ho hb hg3 hn3)
    | ((with_reducible refine gate_dst (N := 93) rfl ?_)
       refine Kd.R_lit Kd.string (w0 := w3) w3.heap.size 9 rfl (N := 93) rfl (xs := ([] : List ByteArray)) (inner := []) (ok := fun _ => True) (okp := fun _ => True) (lit0_s w3 rfl) (Reps.none _ _) (fun _ h => h) trivial (Below.refl _ _) (Nat.le_refl _) (by simp) ?_
       intro v4 w4 ho hb hg4 hn4
       have HO4 := Lib.hid ho
       have HB4 := Lib.hid hb
       clear ho hb hg4 hn4)
    | (at_builtin
       refine Kd.R_append_rows Kd.string (w0 := w3) w3.heap.size rfl (.tmp 93) (.tmp 94) 22 9 (.string ⟨#[]⟩) 16 rfl Tryz.underlying22 infoSt rfl (by decide) (by decide) v4 [] ts _ _ _ (fun _ => True) (fun _ => False) rfl rfl HO4.out (Kd.C_below (Kd.C_below H11.out HB3.out) HB4.out) (fun _ _ h => h) (fun _ h => h.elim) (fun _ _ => trivial) HB4.out HB4.out.size (by show (0 + ts.length) * 16 ≤ 140737488355328; omega) ?_
       intro v5 w5 ho hb hg5 hn5
       rw [List.nil_append] at ho
       have HO5 := Lib.hid ho
       have HB5 := Lib.hid hb
       clear ho hb hg5 hn5)
    | (at_builtin
       refine Kd.R_append_rows Kd.string (w0 := w3) w3.heap.size rfl (.tmp 95) (.tmp 96) 22 9 (.string ⟨#[]⟩) 16 rfl Tryz.underlying22 infoSt rfl (by decide) (by decide) v5 ts fs _ _ _ (fun _ => True) (fun _ => False) rfl rfl HO5.out (Kd.C_below (Kd.C_below H12.out HB3.out) HB5.out) (fun _ _ h => h) (fun _ h => h.elim) (fun _ _ => trivial) HB5.out HB5.out.size (by show (ts.length + fs.length) * 16 ≤ 140737488355328; omega) ?_
       intro v6 w6 ho hb hg6 hn6
       have HO6 := Lib.hid ho
       have HB6 := Lib.hid hb
       clear ho hb hg6 hn6))
  have hB6 : Below w0.heap.size w0 w6 := HB3.out.trans (HB6.out.mono HB3.out.size)
  have HL6 := Lib.hid (HL0.out.on hB6)
  have hR := Kd.R_below HO3.out HB6.out
  obtain ⟨A15, d15, rfl⟩ := Kd.R_slice HO3.out
  obtain ⟨A16, d16, rfl⟩ := Kd.R_slice HO6.out
  have g15 := (Kd.R_reads' hR).2.1
  have g16 := (Kd.R_reads' HO6.out).2.1
  have h15 := own_F rfl hR
  have h16 := own_F rfl HO6.out
  have hlt := HL0.out.run.is.lt
  have hs3 := HB3.out.size
  have HR6 : Hid (Rx w6 ⟨Z, R, M, H, v, p⟩ rk A15 (rs ++ pt).length (rs ++ pt)) := Lib.hid (Kd.F_mono h15 (fun i hi g => by have := hlt i g; omega))
  have HT6 : Hid (Rx w6 ⟨Z, R, M, H, v, p⟩ Kd.string A16 (ts ++ fs).length (ts ++ fs)) := Lib.hid (Kd.F_mono h16 (fun i hi g => by have := hlt i g; omega))
  rw [HL2.out] at g16
  have hT6 := HT6.out
  obtain ⟨nl, hnl⟩ : ∃ nl, (rs ++ pt).length = nl := ⟨_, rfl⟩
  have HNl := Lib.hid hnl
  have HTl := Lib.hid (show (ts ++ fs).length = nl by rw [HL2.out]; exact hnl)
  try rw [HL2.out]
  try rw [hnl]
  rw [hnl] at g15 g16
  have hnb : nl ≤ 100 := by rw [← hnl, List.length_append]; omega
  clear hB6 hR h15 h16 hlt hs3 HO1 HO2 HO3 HO4 HO5 HO6 HB1 HB2 HB3 HB4 HB5 HB6 H9 H10 H11 H12 HL0 hT6 hnl hpl hrl htb hfb
  by_cases h1 : 1 < nl
  · have t1 : decide ((nl : Int) > 1) = true := decide_eq_true (by omega)
    have t1b : decide (nl > 1) = true := decide_eq_true h1
    have t2 : decide ((1 : Int) < (nl : Int)) = true := decide_eq_true (by omega)
    have t2b : decide (1 < nl) = true := decide_eq_true h1
    have p1 : ((1 : Int) ≤ (nl : Int)) = True := eq_true (by omega)
    have p2 : (1 ≤ nl) = True := eq_true (by omega)
    have p3 : ((nl : Int) ≤ (d15 : Int)) = True := eq_true (by omega)
    have p4 : ((nl : Int) ≤ (d16 : Int)) = True := eq_true (by omega)
    have p5 : (nl ≤ d15) = True := eq_true (by omega)
    have p6 : (nl ≤ d16) = True := eq_true (by omega)
    have HRd : Hid (Rx w6 ⟨Z, R, M, H, v, p⟩ rk (if d15 = 1 then A15 else A15.map (·.add (1 * 3))) (nl - 1) ((rs ++ pt).drop 1)) := Lib.hid (by
      have z := Kd.F_cut (c := d15) (m := 1) HR6.out (by rw [HNl.out]; omega) (by rw [HNl.out]; omega)
      rw [List.length_drop, HNl.out] at z
      exact z)
    have HTd : Hid (Rx w6 ⟨Z, R, M, H, v, p⟩ Kd.string (if d16 = 1 then A16 else A16.map (·.add (1 * 1))) (nl - 1) ((ts ++ fs).drop 1)) := Lib.hid (by
      have z := Kd.F_cut (c := d16) (m := 1) HT6.out (by rw [HTl.out]; omega) (by rw [HTl.out]; omega)
      rw [List.length_drop, HTl.out] at z
      exact z)
    have HLd := HL6
    try dsimp only
    go_upto_region 21 with fail
    refine start_ (n := 6) (S := fun w' => True) (ds := []) (bzz 6 0) (by kernel_rfl) rfl rfl trivial (fun hHeld => ?_)
    refine rpz 0 101 ?_ (bzz 6 1) rfl rfl ?_ ?_ ?_ ?_ (hQ := fun c a w h => HQ.out.1 c a _ _ w h)
    rotate_left
    · intro w'
      go_simp
      with_reducible rfl
    rotate_left
    · simp only [zaP, zsA, zsZ, zsS, i64_w, i32_w]
      rfl
    refine rpz 1 102 ?_ (bzz 6 3) rfl rfl ?_ ?_ ?_ ?_ (hQ := fun c a w h => HQ.out.1 c a _ _ w h)
    rotate_left
    · intro w'
      go_simp
      with_reducible rfl
    rotate_left
    · simp only [zaP, zsA, zsZ, zsS, i64_w, i32_w]
      rfl
    refine rpz 2 103 ?_ (bzz 6 7) rfl rfl ?_ ?_ ?_ ?_ (hQ := fun c a w h => HQ.out.1 c a _ _ w h)
    rotate_left
    · intro w'
      go_simp
      with_reducible rfl
    rotate_left
    · simp only [zaP, zsA, zsZ, zsS, i64_w, i32_w]
      rfl
    refine rpz 3 104 ?_ (bzz 6 15) rfl rfl ?_ ?_ ?_ ?_ (hQ := fun c a w h => HQ.out.1 c a _ _ w h)
    rotate_left
    · intro w'
      go_simp
      with_reducible rfl
    rotate_left
    · simp only [zaP, zsA, zsZ, zsS, i64_w, i32_w]
      rfl
    refine rpz 4 15 ?_ (bzz 6 31) rfl rfl ?_ ?_ ?_ ?_ (hQ := fun c a w h => HQ.out.1 c a _ _ w h)
    rotate_left
    · intro w'
      go_simp
      with_reducible rfl
    rotate_left
    · simp only [zaP, zsA, zsZ, zsS, i64_w, i32_w]
      rfl
    refine rpz 5 16 ?_ (bzz 6 63) rfl rfl ?_ ?_ ?_ ?_ (hQ := fun c a w h => HQ.out.1 c a _ _ w h)
    rotate_left
    · intro w'
      go_simp
      with_reducible rfl
    rotate_left
    · simp only [zaP, zsA, zsZ, zsS, i64_w, i32_w]
      rfl
    refine done_ (by kernel_rfl) ?_
    clear hHeld t1 t1b t2 t2b p1 p2 p3 p4 p5 p6
    have hd : Below w6.heap.size w6 (World.drew w6) := (Below.refl _ _).drew
    have HRd := Lib.hid (HRd.out.on hd)
    have HTd := Lib.hid (HTd.out.on hd)
    have HLd := Lib.hid (HLd.out.on hd)
    repeat (first | exact br2b W (World.drew w6) Z R M H v p o N s rs ts pt fs A9 c9 A11 c11 (.slice A10 pt.length c10) (.slice A12 fs.length c12) A0 n m0 j X x hx hk HLW HLd hV trivial _ (d15 - 1) _ (d16 - 1) (nl - 1) 1 HRd HTd (by omega) (by omega) Q HQ | go_step)
  · have t1 : decide ((nl : Int) > 1) = false := decide_eq_false (by omega)
    have t1b : decide (nl > 1) = false := decide_eq_false h1
    have t2 : decide ((1 : Int) < (nl : Int)) = false := decide_eq_false (by omega)
    have t2b : decide (1 < nl) = false := decide_eq_false h1
    have HRd : Hid (Rx w6 ⟨Z, R, M, H, v, p⟩ rk A15 nl ((rs ++ pt).drop 0)) := Lib.hid (by rw [List.drop_zero, ← HNl.out]; exact HR6.out)
    have HTd : Hid (Rx w6 ⟨Z, R, M, H, v, p⟩ Kd.string A16 nl ((ts ++ fs).drop 0)) := Lib.hid (by rw [List.drop_zero, ← HTl.out]; exact HT6.out)
    have HLd := HL6
    try dsimp only
    go_upto_if 100 with fail
    repeat (first | exact br2b W w6 Z R M H v p o N s rs ts pt fs A9 c9 A11 c11 (.slice A10 pt.length c10) (.slice A12 fs.length c12) A0 n m0 j X x hx hk HLW HLd hV trivial _ d15 _ d16 nl 0 HRd HTd (by omega) (by omega) Q HQ | go_step)
noncomputable def br6_code : Code := nv [1, 1, 1, 1, 1, 1, 1, 0, 1, 4, 5, 1, 0, 4, 1, 0, 1, 4, 1, 3, 1, 3, 1, 3, 1, 3, 1, 2] ((Tryz.f6.body).getD .skip)
set_option maxHeartbeats 16000000 in
set_option maxRecDepth 100000 in
theorem br6 (W w0 : World) (Z R M H : Nat) (v p : Value) (o : Mni.Loc) (N : Nat) (s : St) (rs : List Rf) (ts : List ByteArray) (pt : List Rf) (fs : List ByteArray) (A9 : Option Addr) (c9 : Nat) (A11 : Option Addr) (c11 : Nat) (u10 u12 : Value) (A0 : Option Addr) (n m0 j X : Nat) (x : Ac) (hx : AcW x) (hk : j ≤ 29) (HLW : Hid (Laid W)) (HL0 : Hid (Lv W w0 ⟨Z, R, M, H, v, p⟩ o s rs ts pt fs A9 c9 A11 c11 u10 u12)) (hV : Hid (Vl N s rs ts pt fs j)) (HX0 : Hid (Xk w0 ⟨Z, R, M, H, v, p⟩ X x)) (Q : Exit → Act → World → Prop) (HQ : Hid (Nx W R M N j n m0 A0 Q c0 c2 c3 c6 c8 c26 c27 c28 c29 c30 c31 c32 c33 c34 c35 c36 c37 c38 c39 c40 c41 c42 c43 c44 c45 c46 c47 c48 c49 c50 c51 c52 c53)) : Code.wp Tryz.prog br6_code Q ⟨#[c0, .slice A0 n m0, c2, c3, c4, .pointer (some ⟨R, 0, none⟩), c6, .pointer (some ⟨Z, 0, none⟩), c8, .slice A9 rs.length c9, u10, .slice A11 ts.length c11, u12, .int .i64 (j : Int), .pointer (some ⟨X, 0, none⟩), c15, c16, c17, c18, c19, c20, c21, c22, c23, c24, c25, c26, c27, c28, c29, c30, c31, c32, c33, c34, c35, c36, c37, c38, c39, c40, c41, c42, c43, c44, c45, c46, c47, c48, c49, c50, c51, c52, c53, c54, c55, c56, c57, c58, c59, c60, c61, c62, c63, c64, c65, c66, c67, c68, c69, c70, c71, c72, c73, c74, c75, c76, c77, c78, c79, c80, c81, c82, c83, c84, c85, c86, c87, c88, c89, c90, c91, c92, c93, c94, c95, c96, c97, c98, c99, c100, c101, c102, c103, c104, c105, c106, c107, c108, c109, c110, c111, c112, c113, c114, c115, c116, c117, c118, c119, c120, c121, c122, c123, c124, c125, c126, c127, c128, c129, c130, c131, c132, c133, c134, c135, c136, c137, c138, c139, c140, c141, c142, c143, c144, c145, c146, c147, c148, c149, c150, c151, c152, c153, c154, c155, c156, c157, c158, c159, c160, c161, c162, c163, c164, c165, c166, c167, c168, c169, c170, c171, c172, c173, c174, c175, c176, c177, c178, c179, c180, c181, c182, c183, c184, c185, c186, c187, c188, c189, c190, c191, c192, c193, c194, c195, c196, c197, c198, c199, c200, c201, c202, c203, c204, c205, c206, c207, c208, c209, c210, c211, c212, c213, c214, c215, c216, c217, c218, c219, c220, c221, c222, c223], []⟩ w0 := by
  conv => arg 2; whnf
  have hx3 := hx.a3
  obtain ⟨mk, hmk⟩ : ∃ mk : Nat, x.f3 = (mk : Int) := ⟨x.f3.toNat, by omega⟩
  have cM : w0.cell? ⟨X, 3, none⟩ = some (.int .u64 (mk : Int)) := by rw [← hmk]; exact Err.cell_of_blk HX0.out.b 3
  have hmk2 : mk < 2 ^ 64 := by omega
  have hso := hV.out.so
  have h8 : 8 ≤ s.d.size := by rw [hV.out.g.size]; have := hV.out.g.n8; omega
  have hVc := Lib.hid (hV.out.crash mk)
  have hrl := hV.out.g.rl
  clear hmk hx3
  try dsimp only
  go_wp2_with fail
  clear cM
  refine (Dk.crash_c w0 R M v s.d mk (Lib.hid HL0.out.run.is.dsk) hmk2 (by omega)).mono ?_
  rintro e w1 ⟨rfl, hm, hd⟩
  obtain ⟨hi, hs⟩ := HL0.out.run.is.disk hm hd Slt.ft_nil
  have HL1 := Lib.hid (HL0.out.step hs hi)
  clear hm hd hi hs HL0 HX0
  try dsimp only
  go_wp2_with fail
  refine (Dk.budget_c w1 R M _ _ (-1) (Lib.hid HL1.out.run.is.dsk)).mono ?_
  rintro e w2 ⟨rfl, hm0, hd⟩
  have hm := hm0.mono (fun _ _ h => (show Ft R M (.slice none 0 0) _ from .inl h))
  obtain ⟨hi, hs⟩ := HL1.out.run.is.disk hm hd (fun i hi => .inl hi)
  have HL2 := Lib.hid (HL1.out.step hs hi)
  clear hm0 hm hd hi hs HL1
  try dsimp only
  go_wp2_with fail
  refine (Open_down w2 R M _ _ (Lib.hid HL2.out.run.is.dsk) h8 rfl (Nat.zero_le _)).mono ?_
  rintro e w3 ⟨T, u, rfl, he, hd⟩
  have HL3 := Lib.hid (HL2.out.on hd)
  have HE3 := Lib.hid he
  clear he hd HL2
  try dsimp only
  go_wp2_with fail
  refine (Dk.up_c w3 R M _ _ (Lib.hid HL3.out.run.is.dsk)).mono ?_
  rintro e w4 ⟨rfl, hm0, hd⟩
  have hm := hm0.mono (fun _ _ h => (show Ft R M (.slice none 0 0) _ from .inl h))
  obtain ⟨hi, hs⟩ := HL3.out.run.is.disk hm hd (fun i hi => .inl hi)
  have HE4 := Lib.hid (isErr_ft HE3.out HL3.out.run.is.dsk hm)
  have HL4 := Lib.hid (HL3.out.step hs hi)
  clear hm0 hm hd hi hs HL3 HE3
  try dsimp only
  go_wp2_with fail
  refine (open_g (N := N) (rs := rs) (ts := ts) w4 R M _ _ s.gen s.own (Lib.hid HL4.out.run.is.dsk) hVc.out.g rfl (Nat.zero_le _)).mono ?_
  rintro e w5 ⟨Z1, H1, o1, hZ1, hH1, rfl, hi, hd⟩
  have hk9 : ∀ i, i < w4.heap.size → Pq ⟨Z, R, M, H, .slice none 0 0, p⟩ u10 u12 i → ¬ Fs ⟨Z1, R, M, H1, .slice none 0 0, .slice none 0 0⟩ i ∧ w5.heap[i]? = w4.heap[i]? := fun i hl hp => ⟨(fun f => by
    rcases f with e | e | e | e
    · have e : i = Z1 := e
      omega
    · have e : i = H1 := e
      omega
    · exact hp.1 (.inr (.inr (.inl e)))
    · cases e), hd.block i hl⟩
  have hbel := HL4.out.run.bel
  have hfr := HL4.out.run.fr
  have HN5 := Lib.hid (Lv.new (W := W) (A9 := A9) (c9 := c9) (A11 := A11) (c11 := c11) (ts2 := ts) ⟨hbel.trans (hd.mono hbel.size), (fun i f => by
    rcases f with e | e | e | e
    · have e : i = Z1 := e
      have := hbel.size
      omega
    · have e : i = H1 := e
      have := hbel.size
      omega
    · exact hfr i (.inr (.inr (.inl e)))
    · cases e), hi⟩ (F_re HL4.out.r9 hd.size hk9) HL4.out.l9 (F_re HL4.out.r11 hd.size hk9) HL4.out.l11)
  have HL5 := Lib.hid (HL4.out.on hd)
  have HE5 := Lib.hid (HE4.out.on hd)
  have tg : (s.gen != s.gen) = false := by simp
  clear hi hd hk9 hbel hfr HL4 HE4 hZ1 hH1
  try dsimp only
  go_wp2_with fail
  refine (code_c _ 11 w5 HE5 (Lib.hid (HLW.out.on HL5.out.run.bel))).mono ?_
  rintro e w6 ⟨rfl, hd⟩
  have HL6 := Lib.hid (HL5.out.on hd)
  have HN6 := Lib.hid (HN5.out.on hd)
  clear hd HL5 HN5 HE5
  try dsimp only
  go_wp2_with fail
  refine (code_nil w6).mono ?_
  rintro e w7 ⟨rfl, hd⟩
  have HL7 := Lib.hid (HL6.out.on hd)
  have HN7 := Lib.hid (HN6.out.on hd)
  clear hd HL6 HN6
  try dsimp only
  go_wp2_with fail
  refine (gen_s Z1 R M H1 _ _ o1 _ _ s.gen w7 (Lib.hid HN7.out.run.is) rfl).mono ?_
  rintro e w8 ⟨rfl, hd⟩
  have HL8 := Lib.hid (HL7.out.on hd)
  have HN8 := Lib.hid (HN7.out.on hd)
  clear hd HL7 HN7
  try dsimp only
  go_wp2_with fail
  refine (gen_s Z R M H _ _ o _ _ s.gen w8 (Lib.hid HL8.out.run.is) rfl).mono ?_
  rintro e w9 ⟨rfl, hd⟩
  have HL9 := Lib.hid (HL8.out.on hd)
  have HN9 := Lib.hid (HN8.out.on hd)
  clear hd HL8 HN8
  try dsimp only
  go_wp2_with fail
  refine (Manifest_m Z1 R M H1 _ _ o1 (withM rs) _ w9 (Lib.hid HN9.out.run.is) rfl (by show rs.length ≤ 1000000; omega) (by show (upTo rs.length).length ≤ 1000000; rw [upTo_len]; omega)).mono ?_
  rintro e w10 ⟨oa, rfl, ha, hd⟩
  have HL10 := Lib.hid (HL9.out.on hd)
  have HN10 := Lib.hid (HN9.out.on hd)
  have HA10 := Lib.hid ha
  clear hd ha HL9 HN9
  try dsimp only
  go_wp2_with fail
  refine (Manifest_m Z R M H _ _ o (withM rs) _ w10 (Lib.hid HL10.out.run.is) rfl (by show rs.length ≤ 1000000; omega) (by show (upTo rs.length).length ≤ 1000000; rw [upTo_len]; omega)).mono ?_
  rintro e w11 ⟨ob, rfl, hb, hd⟩
  have HL11 := Lib.hid (HL10.out.on hd)
  have HN11 := Lib.hid (HN10.out.on hd)
  have HA11 := Lib.hid (HA10.out.on hd)
  have HB11 := Lib.hid hb
  clear hd hb HL10 HN10 HA10
  try dsimp only
  go_wp2_with fail
  refine (sameM_c oa ob (withM rs) w11 HA11.out HB11.out rfl (by show rs.length ≤ 1000000; omega) (by show (upTo rs.length).length ≤ 1000000; rw [upTo_len]; omega)).mono ?_
  rintro e w12 ⟨rfl, hd⟩
  have HN12 := Lib.hid (HN11.out.on hd)
  clear hd HL11 HN11 HA11 HB11
  try dsimp only
  go_wp2_with fail
  exact HQ.out.2 HN12.out hVc.out
noncomputable def br3_code : Code := nv [1, 1, 1, 1, 1, 1, 1, 0, 1, 4, 5, 1, 0, 4, 1, 0, 1, 4, 1, 3, 1, 2] ((Tryz.f6.body).getD .skip)
set_option maxHeartbeats 16000000 in
set_option maxRecDepth 100000 in
theorem br3 (W w0 : World) (Z R M H : Nat) (v p : Value) (o : Mni.Loc) (N : Nat) (s : St) (rs : List Rf) (ts : List ByteArray) (pt : List Rf) (fs : List ByteArray) (A9 : Option Addr) (c9 : Nat) (A11 : Option Addr) (c11 : Nat) (u10 u12 : Value) (A0 : Option Addr) (n m0 j X : Nat) (x : Ac) (hx : AcW x) (hk : j ≤ 29) (HLW : Hid (Laid W)) (HL0 : Hid (Lv W w0 ⟨Z, R, M, H, v, p⟩ o s rs ts pt fs A9 c9 A11 c11 u10 u12)) (hV : Hid (Vl N s rs ts pt fs j)) (HX0 : Hid (Xk w0 ⟨Z, R, M, H, v, p⟩ X x)) (Q : Exit → Act → World → Prop) (HQ : Hid (Nx W R M N j n m0 A0 Q c0 c2 c3 c6 c8 c26 c27 c28 c29 c30 c31 c32 c33 c34 c35 c36 c37 c38 c39 c40 c41 c42 c43 c44 c45 c46 c47 c48 c49 c50 c51 c52 c53)) : Code.wp Tryz.prog br3_code Q ⟨#[c0, .slice A0 n m0, c2, c3, c4, .pointer (some ⟨R, 0, none⟩), c6, .pointer (some ⟨Z, 0, none⟩), c8, .slice A9 rs.length c9, u10, .slice A11 ts.length c11, u12, .int .i64 (j : Int), .pointer (some ⟨X, 0, none⟩), c15, c16, c17, c18, c19, c20, c21, c22, c23, c24, c25, c26, c27, c28, c29, c30, c31, c32, c33, c34, c35, c36, c37, c38, c39, c40, c41, c42, c43, c44, c45, c46, c47, c48, c49, c50, c51, c52, c53, c54, c55, c56, c57, c58, c59, c60, c61, c62, c63, c64, c65, c66, c67, c68, c69, c70, c71, c72, c73, c74, c75, c76, c77, c78, c79, c80, c81, c82, c83, c84, c85, c86, c87, c88, c89, c90, c91, c92, c93, c94, c95, c96, c97, c98, c99, c100, c101, c102, c103, c104, c105, c106, c107, c108, c109, c110, c111, c112, c113, c114, c115, c116, c117, c118, c119, c120, c121, c122, c123, c124, c125, c126, c127, c128, c129, c130, c131, c132, c133, c134, c135, c136, c137, c138, c139, c140, c141, c142, c143, c144, c145, c146, c147, c148, c149, c150, c151, c152, c153, c154, c155, c156, c157, c158, c159, c160, c161, c162, c163, c164, c165, c166, c167, c168, c169, c170, c171, c172, c173, c174, c175, c176, c177, c178, c179, c180, c181, c182, c183, c184, c185, c186, c187, c188, c189, c190, c191, c192, c193, c194, c195, c196, c197, c198, c199, c200, c201, c202, c203, c204, c205, c206, c207, c208, c209, c210, c211, c212, c213, c214, c215, c216, c217, c218, c219, c220, c221, c222, c223], []⟩ w0 := by
  conv => arg 2; whnf
  go_wp2_with fail
  refine (Forget_c Z R M H v p o (withM rs) s w0 (Lib.hid HL0.out.run.is)).mono ?_
  rintro e w1 ⟨rfl, hi, hs⟩
  have HL1 := Lib.hid (HL0.out.step hs hi).clear
  have hV1 := hV.out.forget
  clear hi hs HL0 HX0
  try dsimp only
  go_wp2_with fail
  exact HQ.out.2 HL1.out hV1
noncomputable def br4_code : Code := nv [1, 1, 1, 1, 1, 1, 1, 0, 1, 4, 5, 1, 0, 4, 1, 0, 1, 4, 1, 3, 1, 3, 1, 2] ((Tryz.f6.body).getD .skip)
set_option maxHeartbeats 16000000 in
set_option maxRecDepth 100000 in
theorem br4 (W w0 : World) (Z R M H : Nat) (v p : Value) (o : Mni.Loc) (N : Nat) (s : St) (rs : List Rf) (ts : List ByteArray) (pt : List Rf) (fs : List ByteArray) (A9 : Option Addr) (c9 : Nat) (A11 : Option Addr) (c11 : Nat) (u10 u12 : Value) (A0 : Option Addr) (n m0 j X : Nat) (x : Ac) (hx : AcW x) (hk : j ≤ 29) (HLW : Hid (Laid W)) (HL0 : Hid (Lv W w0 ⟨Z, R, M, H, v, p⟩ o s rs ts pt fs A9 c9 A11 c11 u10 u12)) (hV : Hid (Vl N s rs ts pt fs j)) (HX0 : Hid (Xk w0 ⟨Z, R, M, H, v, p⟩ X x)) (Q : Exit → Act → World → Prop) (HQ : Hid (Nx W R M N j n m0 A0 Q c0 c2 c3 c6 c8 c26 c27 c28 c29 c30 c31 c32 c33 c34 c35 c36 c37 c38 c39 c40 c41 c42 c43 c44 c45 c46 c47 c48 c49 c50 c51 c52 c53)) : Code.wp Tryz.prog br4_code Q ⟨#[c0, .slice A0 n m0, c2, c3, c4, .pointer (some ⟨R, 0, none⟩), c6, .pointer (some ⟨Z, 0, none⟩), c8, .slice A9 rs.length c9, u10, .slice A11 ts.length c11, u12, .int .i64 (j : Int), .pointer (some ⟨X, 0, none⟩), c15, c16, c17, c18, c19, c20, c21, c22, c23, c24, c25, c26, c27, c28, c29, c30, c31, c32, c33, c34, c35, c36, c37, c38, c39, c40, c41, c42, c43, c44, c45, c46, c47, c48, c49, c50, c51, c52, c53, c54, c55, c56, c57, c58, c59, c60, c61, c62, c63, c64, c65, c66, c67, c68, c69, c70, c71, c72, c73, c74, c75, c76, c77, c78, c79, c80, c81, c82, c83, c84, c85, c86, c87, c88, c89, c90, c91, c92, c93, c94, c95, c96, c97, c98, c99, c100, c101, c102, c103, c104, c105, c106, c107, c108, c109, c110, c111, c112, c113, c114, c115, c116, c117, c118, c119, c120, c121, c122, c123, c124, c125, c126, c127, c128, c129, c130, c131, c132, c133, c134, c135, c136, c137, c138, c139, c140, c141, c142, c143, c144, c145, c146, c147, c148, c149, c150, c151, c152, c153, c154, c155, c156, c157, c158, c159, c160, c161, c162, c163, c164, c165, c166, c167, c168, c169, c170, c171, c172, c173, c174, c175, c176, c177, c178, c179, c180, c181, c182, c183, c184, c185, c186, c187, c188, c189, c190, c191, c192, c193, c194, c195, c196, c197, c198, c199, c200, c201, c202, c203, c204, c205, c206, c207, c208, c209, c210, c211, c212, c213, c214, c215, c216, c217, c218, c219, c220, c221, c222, c223], []⟩ w0 := by
  conv => arg 2; whnf
  have hlen : rs.length ≤ 8 := hV.out.g.rl
  have hl9 := HL0.out.l9
  obtain ⟨k1, hk1⟩ : ∃ k1, min 1 rs.length = k1 := ⟨_, rfl⟩
  have m1 : (if (rs.length : Int) < 1 then (rs.length : Int) else 1) = (k1 : Int) := by split <;> omega
  have hkl : k1 ≤ rs.length := by omega
  have p1 : (0 ≤ (k1 : Int)) = True := eq_true (by omega)
  have p2 : ((k1 : Int) ≤ (c9 : Int)) = True := eq_true (by omega)
  have p3 : (k1 ≤ c9) = True := eq_true (by omega)
  have hlk : (rs.take k1).length = k1 := by rw [List.length_take]; omega
  have hcon := Hold_r Z R M H v p A9 c9 o (withM rs) s (rs.take k1) w0 (Lib.hid HL0.out.run.is) (by omega) (Lib.hid (fun w' km => (Kd.F_take HL0.out.r9 hkl) w' (fun i hp hl => km.block i hl (fun e => hp.1 (.inr (.inl e))))))
  rw [hlk] at hcon
  have hcon := Lib.hid hcon
  clear hlk hk1
  try dsimp only
  go_wp2_with fail
  clear m1 p1 p2 p3
  refine hcon.out.mono ?_
  rintro e w1 ⟨rfl, hi, hm⟩
  have HL1 := Lib.hid (HL0.out.step (stp_held hm) hi)
  have hV1 := hV.out.held (l := rs.take k1) (fun r hr => List.mem_of_mem_take hr) _ (fun x hx => hold_keysA hx)
  clear hi hm HL0 HX0 hcon
  try dsimp only
  go_wp2_with fail
  exact HQ.out.2 HL1.out hV1
noncomputable def br5_code : Code := nv [1, 1, 1, 1, 1, 1, 1, 0, 1, 4, 5, 1, 0, 4, 1, 0, 1, 4, 1, 3, 1, 3, 1, 3, 1, 2] ((Tryz.f6.body).getD .skip)
set_option maxHeartbeats 16000000 in
set_option maxRecDepth 100000 in
theorem br5 (W w0 : World) (Z R M H : Nat) (v p : Value) (o : Mni.Loc) (N : Nat) (s : St) (rs : List Rf) (ts : List ByteArray) (pt : List Rf) (fs : List ByteArray) (A9 : Option Addr) (c9 : Nat) (A11 : Option Addr) (c11 : Nat) (u10 u12 : Value) (A0 : Option Addr) (n m0 j X : Nat) (x : Ac) (hx : AcW x) (hk : j ≤ 29) (HLW : Hid (Laid W)) (HL0 : Hid (Lv W w0 ⟨Z, R, M, H, v, p⟩ o s rs ts pt fs A9 c9 A11 c11 u10 u12)) (hV : Hid (Vl N s rs ts pt fs j)) (HX0 : Hid (Xk w0 ⟨Z, R, M, H, v, p⟩ X x)) (Q : Exit → Act → World → Prop) (HQ : Hid (Nx W R M N j n m0 A0 Q c0 c2 c3 c6 c8 c26 c27 c28 c29 c30 c31 c32 c33 c34 c35 c36 c37 c38 c39 c40 c41 c42 c43 c44 c45 c46 c47 c48 c49 c50 c51 c52 c53)) : Code.wp Tryz.prog br5_code Q ⟨#[c0, .slice A0 n m0, c2, c3, c4, .pointer (some ⟨R, 0, none⟩), c6, .pointer (some ⟨Z, 0, none⟩), c8, .slice A9 rs.length c9, u10, .slice A11 ts.length c11, u12, .int .i64 (j : Int), .pointer (some ⟨X, 0, none⟩), c15, c16, c17, c18, c19, c20, c21, c22, c23, c24, c25, c26, c27, c28, c29, c30, c31, c32, c33, c34, c35, c36, c37, c38, c39, c40, c41, c42, c43, c44, c45, c46, c47, c48, c49, c50, c51, c52, c53, c54, c55, c56, c57, c58, c59, c60, c61, c62, c63, c64, c65, c66, c67, c68, c69, c70, c71, c72, c73, c74, c75, c76, c77, c78, c79, c80, c81, c82, c83, c84, c85, c86, c87, c88, c89, c90, c91, c92, c93, c94, c95, c96, c97, c98, c99, c100, c101, c102, c103, c104, c105, c106, c107, c108, c109, c110, c111, c112, c113, c114, c115, c116, c117, c118, c119, c120, c121, c122, c123, c124, c125, c126, c127, c128, c129, c130, c131, c132, c133, c134, c135, c136, c137, c138, c139, c140, c141, c142, c143, c144, c145, c146, c147, c148, c149, c150, c151, c152, c153, c154, c155, c156, c157, c158, c159, c160, c161, c162, c163, c164, c165, c166, c167, c168, c169, c170, c171, c172, c173, c174, c175, c176, c177, c178, c179, c180, c181, c182, c183, c184, c185, c186, c187, c188, c189, c190, c191, c192, c193, c194, c195, c196, c197, c198, c199, c200, c201, c202, c203, c204, c205, c206, c207, c208, c209, c210, c211, c212, c213, c214, c215, c216, c217, c218, c219, c220, c221, c222, c223], []⟩ w0 := by
  conv => arg 2; whnf
  have hlen : rs.length ≤ 8 := hV.out.g.rl
  have hl9 := HL0.out.l9
  obtain ⟨k1, hk1⟩ : ∃ k1, min 1 rs.length = k1 := ⟨_, rfl⟩
  have m1 : (if (rs.length : Int) < 1 then (rs.length : Int) else 1) = (k1 : Int) := by split <;> omega
  have hkl : k1 ≤ rs.length := by omega
  have p1 : (0 ≤ (k1 : Int)) = True := eq_true (by omega)
  have p2 : ((k1 : Int) ≤ (c9 : Int)) = True := eq_true (by omega)
  have p3 : (k1 ≤ c9) = True := eq_true (by omega)
  have hlk : (rs.take k1).length = k1 := by rw [List.length_take]; omega
  have hcon := Free_r Z R M H v p A9 c9 o (withM rs) s (rs.take k1) w0 (Lib.hid HL0.out.run.is) (by omega) (Lib.hid (fun w' km => (Kd.F_take HL0.out.r9 hkl) w' (fun i hp hl => km.block i hl (fun e => hp.1 (.inr (.inl e))))))
  rw [hlk] at hcon
  have hcon := Lib.hid hcon
  clear hlk hk1
  try dsimp only
  go_wp2_with fail
  clear m1 p1 p2 p3
  refine hcon.out.mono ?_
  rintro e w1 ⟨rfl, hi, hm⟩
  have HL1 := Lib.hid (HL0.out.step (stp_held hm) hi)
  have hV1 := hV.out.held (l := rs.take k1) (fun r hr => List.mem_of_mem_take hr) _ (fun x hx => free_keysA hx)
  clear hi hm HL0 HX0 hcon
  try dsimp only
  go_wp2_with fail
  exact HQ.out.2 HL1.out hV1
noncomputable def br7_code : Code := nv [1, 1, 1, 1, 1, 1, 1, 0, 1, 4, 5, 1, 0, 4, 1, 0, 1, 4, 1, 3, 1, 3, 1, 3, 1, 3, 1, 3, 1, 2] ((Tryz.f6.body).getD .skip)
set_option maxHeartbeats 16000000 in
set_option maxRecDepth 100000 in
theorem br7 (W w0 : World) (Z R M H : Nat) (v p : Value) (o : Mni.Loc) (N : Nat) (s : St) (rs : List Rf) (ts : List ByteArray) (pt : List Rf) (fs : List ByteArray) (A9 : Option Addr) (c9 : Nat) (A11 : Option Addr) (c11 : Nat) (u10 u12 : Value) (A0 : Option Addr) (n m0 j X : Nat) (x : Ac) (hx : AcW x) (hk : j ≤ 29) (HLW : Hid (Laid W)) (HL0 : Hid (Lv W w0 ⟨Z, R, M, H, v, p⟩ o s rs ts pt fs A9 c9 A11 c11 u10 u12)) (hV : Hid (Vl N s rs ts pt fs j)) (HX0 : Hid (Xk w0 ⟨Z, R, M, H, v, p⟩ X x)) (Q : Exit → Act → World → Prop) (HQ : Hid (Nx W R M N j n m0 A0 Q c0 c2 c3 c6 c8 c26 c27 c28 c29 c30 c31 c32 c33 c34 c35 c36 c37 c38 c39 c40 c41 c42 c43 c44 c45 c46 c47 c48 c49 c50 c51 c52 c53)) : Code.wp Tryz.prog br7_code Q ⟨#[c0, .slice A0 n m0, c2, c3, c4, .pointer (some ⟨R, 0, none⟩), c6, .pointer (some ⟨Z, 0, none⟩), c8, .slice A9 rs.length c9, u10, .slice A11 ts.length c11, u12, .int .i64 (j : Int), .pointer (some ⟨X, 0, none⟩), c15, c16, c17, c18, c19, c20, c21, c22, c23, c24, c25, c26, c27, c28, c29, c30, c31, c32, c33, c34, c35, c36, c37, c38, c39, c40, c41, c42, c43, c44, c45, c46, c47, c48, c49, c50, c51, c52, c53, c54, c55, c56, c57, c58, c59, c60, c61, c62, c63, c64, c65, c66, c67, c68, c69, c70, c71, c72, c73, c74, c75, c76, c77, c78, c79, c80, c81, c82, c83, c84, c85, c86, c87, c88, c89, c90, c91, c92, c93, c94, c95, c96, c97, c98, c99, c100, c101, c102, c103, c104, c105, c106, c107, c108, c109, c110, c111, c112, c113, c114, c115, c116, c117, c118, c119, c120, c121, c122, c123, c124, c125, c126, c127, c128, c129, c130, c131, c132, c133, c134, c135, c136, c137, c138, c139, c140, c141, c142, c143, c144, c145, c146, c147, c148, c149, c150, c151, c152, c153, c154, c155, c156, c157, c158, c159, c160, c161, c162, c163, c164, c165, c166, c167, c168, c169, c170, c171, c172, c173, c174, c175, c176, c177, c178, c179, c180, c181, c182, c183, c184, c185, c186, c187, c188, c189, c190, c191, c192, c193, c194, c195, c196, c197, c198, c199, c200, c201, c202, c203, c204, c205, c206, c207, c208, c209, c210, c211, c212, c213, c214, c215, c216, c217, c218, c219, c220, c221, c222, c223], []⟩ w0 := by
  conv => arg 2; whnf
  have hx2 := hx.a2
  have q5 : IntKind.i64.wrap x.f2 = x.f2 := IntWalk.i64_in _ (by omega)
  have cN : w0.cell? ⟨X, 2, none⟩ = some (.int .u8 x.f2) := Err.cell_of_blk HX0.out.b 2
  obtain ⟨b, hb⟩ : ∃ b, x.f2.tmod 20 = b := ⟨_, rfl⟩
  have hb0 : 0 ≤ b := by rw [← hb]; exact Int.tmod_nonneg _ hx2.1
  have hb6 : b < 20 := by rw [← hb]; exact Int.tmod_lt_of_pos _ (by decide)
  have HBb := Lib.hid hb
  clear hx2 hb
  try dsimp only
  go_wp2_with fail
  try rw [HBb.out]
  clear cN q5
  refine (Dk.budget_c w0 R M v s.d b (Lib.hid HL0.out.run.is.dsk)).mono ?_
  rintro e w1 ⟨rfl, hm0, hd⟩
  have hm := hm0.mono (fun _ _ h => (show Ft R M v _ from .inl h))
  obtain ⟨hi, hs⟩ := HL0.out.run.is.disk hm hd (fun i hi => .inl hi)
  have HL1 := Lib.hid (HL0.out.step hs hi)
  have hV1 := hV.out.bud b hb0 (by omega)
  clear hi hs hm hm0 hd HL0 HX0
  try dsimp only
  go_wp2_with fail
  exact HQ.out.2 HL1.out hV1
noncomputable def brD_code : Code := nv [1, 1, 1, 1, 1, 1, 1, 0, 1, 4, 5, 1, 0, 4, 1, 0, 1, 4, 1, 3, 1, 3, 1, 3, 1, 3, 1, 3, 1, 3] ((Tryz.f6.body).getD .skip)
set_option maxHeartbeats 16000000 in
set_option maxRecDepth 100000 in
theorem brD (W w0 : World) (Z R M H : Nat) (v p : Value) (o : Mni.Loc) (N : Nat) (s : St) (rs : List Rf) (ts : List ByteArray) (pt : List Rf) (fs : List ByteArray) (A9 : Option Addr) (c9 : Nat) (A11 : Option Addr) (c11 : Nat) (u10 u12 : Value) (A0 : Option Addr) (n m0 j X : Nat) (x : Ac) (hx : AcW x) (hk : j ≤ 29) (HLW : Hid (Laid W)) (HL0 : Hid (Lv W w0 ⟨Z, R, M, H, v, p⟩ o s rs ts pt fs A9 c9 A11 c11 u10 u12)) (hV : Hid (Vl N s rs ts pt fs j)) (HX0 : Hid (Xk w0 ⟨Z, R, M, H, v, p⟩ X x)) (Q : Exit → Act → World → Prop) (HQ : Hid (Nx W R M N j n m0 A0 Q c0 c2 c3 c6 c8 c26 c27 c28 c29 c30 c31 c32 c33 c34 c35 c36 c37 c38 c39 c40 c41 c42 c43 c44 c45 c46 c47 c48 c49 c50 c51 c52 c53)) : Code.wp Tryz.prog brD_code Q ⟨#[c0, .slice A0 n m0, c2, c3, c4, .pointer (some ⟨R, 0, none⟩), c6, .pointer (some ⟨Z, 0, none⟩), c8, .slice A9 rs.length c9, u10, .slice A11 ts.length c11, u12, .int .i64 (j : Int), .pointer (some ⟨X, 0, none⟩), c15, c16, c17, c18, c19, c20, c21, c22, c23, c24, c25, c26, c27, c28, c29, c30, c31, c32, c33, c34, c35, c36, c37, c38, c39, c40, c41, c42, c43, c44, c45, c46, c47, c48, c49, c50, c51, c52, c53, c54, c55, c56, c57, c58, c59, c60, c61, c62, c63, c64, c65, c66, c67, c68, c69, c70, c71, c72, c73, c74, c75, c76, c77, c78, c79, c80, c81, c82, c83, c84, c85, c86, c87, c88, c89, c90, c91, c92, c93, c94, c95, c96, c97, c98, c99, c100, c101, c102, c103, c104, c105, c106, c107, c108, c109, c110, c111, c112, c113, c114, c115, c116, c117, c118, c119, c120, c121, c122, c123, c124, c125, c126, c127, c128, c129, c130, c131, c132, c133, c134, c135, c136, c137, c138, c139, c140, c141, c142, c143, c144, c145, c146, c147, c148, c149, c150, c151, c152, c153, c154, c155, c156, c157, c158, c159, c160, c161, c162, c163, c164, c165, c166, c167, c168, c169, c170, c171, c172, c173, c174, c175, c176, c177, c178, c179, c180, c181, c182, c183, c184, c185, c186, c187, c188, c189, c190, c191, c192, c193, c194, c195, c196, c197, c198, c199, c200, c201, c202, c203, c204, c205, c206, c207, c208, c209, c210, c211, c212, c213, c214, c215, c216, c217, c218, c219, c220, c221, c222, c223], []⟩ w0 := by
  conv => arg 2; whnf
  have cT : w0.cell? ⟨X, 1, none⟩ = some (.string x.f1) := Err.cell_of_blk HX0.out.b 1
  try dsimp only
  go_wp2_with fail
  clear cT
  refine (put_l Z R M H v p o x.f1 j w0 (Lib.hid HL0.out.run.is) hV hk).mono ?_
  rintro e w1 ⟨v1, p1, s1, hi, hs, hres⟩
  have HL1 := Lib.hid (HL0.out.step hs hi)
  have HX1 := Lib.hid (HX0.out.step hs)
  clear hi hs HL0 HX0
  rcases hres with ⟨T, u, rfl, ⟨k, he, hk0⟩, hV1⟩ | ⟨r, rfl, hV1⟩
  · have HE1 := Lib.hid he
    have tk : (k == 0) = false := beq_eq_false_iff_ne.2 hk0
    clear he hk0
    dsimp only
    try dsimp only
    go_wp2_with (first | (refine wl_allocR rfl rfl ?_) | (refine wl_storeRn #[.int .i64 0, .int .i64 0, .int .u32 0] rfl zr rfl _ _ rfl rfl rfl ?_))
    have hd : Below w1.heap.size w1 (w1.alloc (Obj.cells (ra zr) 36 (0, 0))) := (Below.refl _ _).alloc (Nat.le_refl _) _
    have HL2 := Lib.hid (HL1.out.on hd)
    have HE2 := Lib.hid (HE1.out.on hd)
    generalize (w1.alloc (Obj.cells (ra zr) 36 (0, 0))) = w2 at *
    clear hd HL1 HE1 HX1
    refine (code_c _ k w2 HE2 (Lib.hid (HLW.out.on HL2.out.run.bel))).mono ?_
    rintro e w3 ⟨rfl, hd⟩
    have HL3 := Lib.hid (HL2.out.on hd)
    clear hd HL2 HE2
    try dsimp only
    go_wp2_with fail
    exact HQ.out.2 HL3.out hV1
  · dsimp only
    try dsimp only
    go_wp2_with (first | (refine wl_allocR rfl rfl ?_) | (refine wl_storeRn #[.int .i64 0, .int .i64 0, .int .u32 0] rfl r rfl _ _ rfl rfl rfl ?_))
    have hd : Below w1.heap.size w1 (w1.alloc (Obj.cells (ra r) 36 (0, 0))) := (Below.refl _ _).alloc (Nat.le_refl _) _
    have hb0 := heap_alloc_last w1 (Obj.cells (ra r) 36 (0, 0))
    have HL2 := Lib.hid (HL1.out.on hd)
    have HX2 := Lib.hid (HX1.out.on hd)
    obtain ⟨K, hK⟩ : ∃ K, w1.heap.size = K := ⟨_, rfl⟩
    rw [hK] at hb0
    simp only [hK]
    have HK2 := Lib.hid hb0
    generalize (w1.alloc (Obj.cells (ra r) 36 (0, 0))) = w2 at *
    clear hd hb0 hK HL1 HX1
    refine (code_nil w2).mono ?_
    rintro e w3 ⟨rfl, hd⟩
    have HL3 := Lib.hid (HL2.out.on hd)
    have HX3 := Lib.hid (HX2.out.on hd)
    have HK3 := blk_to HK2 hd
    clear hd HL2 HX2 HK2
    have hpl := hV.out.pl
    have hfl : fs.length ≤ j := by rw [hV.out.g.fl]; exact hpl
    try dsimp only
    go_upto_region 17 with (first
      | (refine wl_loadR K r HK3.out rfl _ rfl rfl ?_)
      | (refine Kd.event_run rfl (exec_litR (a := r.f0) (b := r.f1) (c := r.f2) rfl rfl _) ?_
         have hd : Below w3.heap.size w3 (w3.alloc (Obj.cells #[.int .i64 r.f0, .int .i64 r.f1, .int .u32 r.f2] 36 (0, 0))) := (Below.refl _ _).alloc (Nat.le_refl _) _
         have HZ4 := Lib.hid (heap_alloc_last w3 (Obj.cells #[.int .i64 r.f0, .int .i64 r.f1, .int .u32 r.f2] 36 (0, 0)))
         have HL4 := Lib.hid (HL3.out.on hd)
         have HX4 := Lib.hid (HX3.out.on hd)
         generalize (w3.alloc (Obj.cells #[.int .i64 r.f0, .int .i64 r.f1, .int .u32 r.f2] 36 (0, 0))) = w4 at *
         clear hd)
      | (at_builtin
         refine Kd.R_append_rows rk (w0 := w4) 0 rfl (.tmp 77) (.tmp 79) 33 36 (.agg #[.int .i64 0, .int .i64 0, .int .u32 0]) 24 rfl Tryz.underlying33 infoR rfl (by decide) (by decide) u10 pt [r] _ _ _ (fun _ => True) (fun _ => False) rfl rfl HL4.out.w10.r (Kd.R_reads' (R_one HZ4.out)).2.2 (fun y cs hy => by have e := k36_open hy; subst e; exact k36_mkM _ _ _ _) (fun _ h => h.elim) (fun _ _ => trivial) (Below.refl _ _) (Nat.zero_le _) (by show (pt.length + 1) * 24 ≤ 140737488355328; omega) ?_
         intro v5 w5 ho hb hg5 hn5
         have HL5 := Lib.hid (HL4.out.push10 ho hg5 hn5)
         have HX5 := Lib.hid (HX4.out.grown HL4.out.w10.r (by decide) hg5)
         clear ho hb hg5 hn5))
    clear HL3 HX3 HK3 HL4 HX4 HZ4
    have cT : w5.cell? ⟨X, 1, none⟩ = some (.string x.f1) := Err.cell_of_blk HX5.out.b 1
    try dsimp only
    go_wp2_with (first
      | (refine Kd.event_run rfl (exec_litS1 (t := x.f1) rfl rfl _) ?_
         have hd : Below w5.heap.size w5 (w5.alloc (Obj.cells #[.string x.f1] 9 (0, 0))) := (Below.refl _ _).alloc (Nat.le_refl _) _
         have HZ6 := Lib.hid (heap_alloc_last w5 (Obj.cells #[.string x.f1] 9 (0, 0)))
         have HL6 := Lib.hid (HL5.out.on hd)
         clear cT
         generalize (w5.alloc (Obj.cells #[.string x.f1] 9 (0, 0))) = w6 at *
         clear hd)
      | (at_builtin
         refine Kd.R_append_rows Kd.string (w0 := w6) 0 rfl (.tmp 81) (.tmp 84) 22 9 (.string ⟨#[]⟩) 16 rfl Tryz.underlying22 infoSt rfl (by decide) (by decide) u12 fs [x.f1] _ _ _ (fun _ => True) (fun _ => False) rfl rfl HL6.out.w12.r (C_one HZ6.out) (fun _ _ h => h) (fun _ h => h.elim) (fun _ _ => trivial) (Below.refl _ _) (Nat.zero_le _) (by show (fs.length + 1) * 16 ≤ 140737488355328; omega) ?_
         intro v7 w7 ho hb hg7 hn7
         have HL7 := Lib.hid (HL6.out.push12 ho hg7 hn7)
         clear ho hb hg7 hn7))
    exact HQ.out.2 HL7.out hV1
noncomputable def br_all_code : Code := nv [1, 1, 1, 1, 1, 1, 1, 0, 1, 4, 5, 1, 0, 4, 1, 0, 1, 4] ((Tryz.f6.body).getD .skip)
set_option maxHeartbeats 16000000 in
set_option maxRecDepth 100000 in
theorem br_all (W w0 : World) (Z R M H : Nat) (v p : Value) (o : Mni.Loc) (N : Nat) (s : St) (rs : List Rf) (ts : List ByteArray) (pt : List Rf) (fs : List ByteArray) (A9 : Option Addr) (c9 : Nat) (A11 : Option Addr) (c11 : Nat) (u10 u12 : Value) (A0 : Option Addr) (n m0 j X : Nat) (x : Ac) (hx : AcW x) (hk : j ≤ 29) (HLW : Hid (Laid W)) (HL0 : Hid (Lv W w0 ⟨Z, R, M, H, v, p⟩ o s rs ts pt fs A9 c9 A11 c11 u10 u12)) (hV : Hid (Vl N s rs ts pt fs j)) (HX0 : Hid (Xk w0 ⟨Z, R, M, H, v, p⟩ X x)) (y : Int) (Q : Exit → Act → World → Prop) (HQ : Hid (Nx W R M N j n m0 A0 Q c0 c2 c3 c6 c8 c26 c27 c28 c29 c30 c31 c32 c33 c34 c35 c36 c37 c38 c39 c40 c41 c42 c43 c44 c45 c46 c47 c48 c49 c50 c51 c52 c53)) : Code.wp Tryz.prog br_all_code Q ⟨#[c0, .slice A0 n m0, c2, c3, c4, .pointer (some ⟨R, 0, none⟩), c6, .pointer (some ⟨Z, 0, none⟩), c8, .slice A9 rs.length c9, u10, .slice A11 ts.length c11, u12, .int .i64 (j : Int), .pointer (some ⟨X, 0, none⟩), c15, c16, c17, c18, c19, c20, c21, c22, c23, c24, c25, c26, c27, c28, c29, c30, c31, c32, c33, c34, c35, c36, c37, c38, c39, c40, c41, c42, c43, c44, c45, c46, c47, c48, c49, c50, c51, c52, c53, c54, c55, c56, c57, c58, c59, c60, c61, c62, c63, c64, c65, .int .u8 y, c67, c68, c69, c70, c71, c72, c73, c74, c75, c76, c77, c78, c79, c80, c81, c82, c83, c84, c85, c86, c87, c88, c89, c90, c91, c92, c93, c94, c95, c96, c97, c98, c99, c100, c101, c102, c103, c104, c105, c106, c107, c108, c109, c110, c111, c112, c113, c114, c115, c116, c117, c118, c119, c120, c121, c122, c123, c124, c125, c126, c127, c128, c129, c130, c131, c132, c133, c134, c135, c136, c137, c138, c139, c140, c141, c142, c143, c144, c145, c146, c147, c148, c149, c150, c151, c152, c153, c154, c155, c156, c157, c158, c159, c160, c161, c162, c163, c164, c165, c166, c167, c168, c169, c170, c171, c172, c173, c174, c175, c176, c177, c178, c179, c180, c181, c182, c183, c184, c185, c186, c187, c188, c189, c190, c191, c192, c193, c194, c195, c196, c197, c198, c199, c200, c201, c202, c203, c204, c205, c206, c207, c208, c209, c210, c211, c212, c213, c214, c215, c216, c217, c218, c219, c220, c221, c222, c223], []⟩ w0 := by
  conv => arg 2; whnf
  by_cases h2 : y = 2
  · have t2 : (y == 2) = true := by rw [h2]; rfl
    clear h2
    go_upto_if 86 with fail
    repeat (first | exact br2 W w0 Z R M H v p o N s rs ts pt fs A9 c9 A11 c11 u10 u12 A0 n m0 j X x hx hk HLW HL0 hV HX0 Q HQ | go_step)
  · have t2 : (y == 2) = false := beq_eq_false_iff_ne.2 h2
    clear h2
    by_cases h3 : y = 3
    · have t3 : (y == 3) = true := by rw [h3]; rfl
      clear h3
      go_upto_if 138 with fail
      repeat (first | exact br3 W w0 Z R M H v p o N s rs ts pt fs A9 c9 A11 c11 u10 u12 A0 n m0 j X x hx hk HLW HL0 hV HX0 Q HQ | go_step)
    · have t3 : (y == 3) = false := beq_eq_false_iff_ne.2 h3
      clear h3
      by_cases h4 : y = 4
      · have t4 : (y == 4) = true := by rw [h4]; rfl
        clear h4
        go_upto_if 142 with fail
        repeat (first | exact br4 W w0 Z R M H v p o N s rs ts pt fs A9 c9 A11 c11 u10 u12 A0 n m0 j X x hx hk HLW HL0 hV HX0 Q HQ | go_step)
      · have t4 : (y == 4) = false := beq_eq_false_iff_ne.2 h4
        clear h4
        by_cases h5 : y = 5
        · have t5 : (y == 5) = true := by rw [h5]; rfl
          clear h5
          go_upto_if 151 with fail
          repeat (first | exact br5 W w0 Z R M H v p o N s rs ts pt fs A9 c9 A11 c11 u10 u12 A0 n m0 j X x hx hk HLW HL0 hV HX0 Q HQ | go_step)
        · have t5 : (y == 5) = false := beq_eq_false_iff_ne.2 h5
          clear h5
          by_cases h6 : y = 6
          · have t6 : (y == 6) = true := by rw [h6]; rfl
            clear h6
            go_upto_if 160 with fail
            repeat (first | exact br6 W w0 Z R M H v p o N s rs ts pt fs A9 c9 A11 c11 u10 u12 A0 n m0 j X x hx hk HLW HL0 hV HX0 Q HQ | go_step)
          · have t6 : (y == 6) = false := beq_eq_false_iff_ne.2 h6
            clear h6
            by_cases h7 : y = 7
            · have t7 : (y == 7) = true := by rw [h7]; rfl
              clear h7
              go_upto_if 204 with fail
              repeat (first | exact br7 W w0 Z R M H v p o N s rs ts pt fs A9 c9 A11 c11 u10 u12 A0 n m0 j X x hx hk HLW HL0 hV HX0 Q HQ | go_step)
            · have t7 : (y == 7) = false := beq_eq_false_iff_ne.2 h7
              clear h7
              go_upto_if 204 with fail
              repeat (first | exact brD W w0 Z R M H v p o N s rs ts pt fs A9 c9 A11 c11 u10 u12 A0 n m0 j X x hx hk HLW HL0 hV HX0 Q HQ | go_step)
end Go.Proofs.YtaodgnladjafoaaGreatDoor.Sto
