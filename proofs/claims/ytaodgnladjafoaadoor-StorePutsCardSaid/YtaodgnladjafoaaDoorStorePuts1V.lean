/- StorePuts, the walk: the tail behind the acts. -/
import Derived.Test.YtaodgnladjafoaaDoorStorePuts0V
set_option linter.unusedVariables false
set_option linter.unusedSimpArgs false
namespace Go.Proofs.YtaodgnladjafoaaDoor.Sto
open Go.RowKit Go.Proofs.YtaodgnladjafoaaDoorW.PrintWords Go.Proofs.YtaodgnladjafoaaDoorW.PrintLast Go.Proofs.YtaodgnladjafoaaDoorW.PrintMore Go.Proofs.YtaodgnladjafoaaDoor.Md Go.Proofs.YtaodgnladjafoaaDoor.Mni Go.Proofs.YtaodgnladjafoaaDoor.QStorePuts
open Go.Proofs.YtaodgnladjafoaaDoor.Dk (Dsk IsD Ft mayN rd)
open Go.Proofs.YtaodgnladjafoaaDoor.Slt (Sl switched bestOf)
open Go.Proofs.YtaodgnladjafoaaDoor.Err (Laid IsErr code_nil code_c Chain at_some at_nil)
/-- a row of bools beside a store -/
structure Rw (w : World) (q : Pl) (u : Value) (xs : List Bool) : Prop where
  r : Kd.R Kd.bool 4 w 0 (fun _ => True) u xs
  n : ∀ b, u.ownBlock = some b → ¬ Fs q b
theorem Rw.new {w w1 : World} {q : Pl} {u : Value} {xs : List Bool} {o : Mni.Loc} {m : Man} {s : St} (h : IsS w q o m s) (hu : Kd.R Kd.bool 4 w1 w.heap.size (fun _ => True) u xs) : Rw w1 q u xs :=
  ⟨Kd.R_lower hu (Nat.zero_le _), fun b hb f => by
    have h1 := ((Kd.R_bound hu).1 b hb).2.1
    have h2 := h.lt b f
    omega⟩
theorem Rw.on {w w1 : World} {q : Pl} {u : Value} {xs : List Bool} (h : Rw w q u xs) (k : Below w.heap.size w w1) : Rw w1 q u xs := ⟨Kd.R_below h.r k, h.n⟩
theorem Rw.step {w w1 : World} {q q1 : Pl} {u : Value} {xs : List Bool} (h : Rw w q u xs) (k : Stp w q w1 q1) : Rw w1 q1 u xs :=
  ⟨row_on (α := Bool) rfl h.r k.mod (fun b hb f => h.n b hb f), fun b hb => (k.out ((Kd.R_bound h.r).1 b hb).2.2.1 (h.n b hb)).1⟩
theorem Rw.c {w : World} {q : Pl} {A : Option Addr} {n c : Nat} {xs : List Bool} (h : Rw w q (.slice A n c) xs) : Kd.C Kd.bool w A n xs := by
  obtain ⟨h1, h2, h3⟩ := Kd.R_reads' h.r
  subst h1
  exact h3
theorem taken_R (Z R M H : Nat) (v p : Value) (s : St) (w : World) (h : Hid (IsS w ⟨Z, R, M, H, v, p⟩ oE emptyM s)) (hok : Ok emptyM s) :
    Calls Tryd.prog 10 #[.pointer (some ⟨Z, 0, none⟩)] w fun e w' => ∃ u, e = .returned u ∧ Rw w' ⟨Z, R, M, H, v, p⟩ u (used emptyM s) ∧ Below w.heap.size w w' := by
  refine (Taken_c Z R M H v p oE emptyM s w h hok.ms hok.mr (Lib.hid hok.rt) hok.rf hok.pl).mono ?_
  rintro e w' ⟨u, rfl, hu, hd⟩
  exact ⟨u, rfl, Rw.new h.out hu, hd⟩
/-- a store, what was put, in the law's own row, what is taken -/
structure Lp (W w : World) (q : Pl) (s : St) (u p : Value) : Prop where
  run : Run W w q oE emptyM s
  wn : Rw w q u (used emptyM s)
  pt : rk.R 44 w 0 (fun _ => True) p s.put
  pn : ∀ b, p.ownBlock = some b → ¬ Fs q b ∧ W.heap.size ≤ b
theorem Lp.on {W w w1 : World} {q : Pl} {s : St} {u p : Value} (h : Lp W w q s u p) (k : Below w.heap.size w w1) : Lp W w1 q s u p := ⟨h.run.on k, h.wn.on k, Kd.R_below h.pt k, h.pn⟩
def tl : Nat → Code → Code
  | 0, c => c
  | n + 1, .seq _ b => tl n b
  | _, c => c
theorem row_out {w w1 : World} {q q1 : Pl} {p : Value} {l : List Rf} (h : rk.R 44 w 0 (fun _ => True) p l) (hn : ∀ b, p.ownBlock = some b → ¬ Fs q b) (k : Stp w q w1 q1) : rk.R 44 w1 0 (fun _ => True) p l ∧ ∀ b, p.ownBlock = some b → ¬ Fs q1 b :=
  ⟨row_on (α := Rf) rfl h k.mod (fun b hb f => hn b hb f), fun b hb => (k.out ((Kd.R_bound h).1 b hb).2.2.1 (hn b hb)).1⟩
noncomputable def puts_tail_code : Code := tl 11 ((Tryd.f3.body).getD .skip)
set_option maxHeartbeats 4000000 in
set_option maxRecDepth 100000 in
theorem puts_tail {c0 c1 c2 c3 c4 c5 c6 c8 c10 c11 c13 c14 c15 c16 c17 c18 c19 c20 c21 c22 c23 c24 c25 c26 c27 c28 c29 c30 c31 c32 c33 c34 c35 c36 c37 c38 c39 c40 c41 c42 c43 c44 c45 c46 c47 c48 c49 c50 c51 c52 c53 c54 c55 c56 c57 c58 c59 c60 c61 c62 c63 c64 c65 c66 c67 c68 c69 c70 c71 c72 c73 c74 c75 c76 c77 c78 c79 c80 c81 c82 c83 c84 c85 c86 c87 c88 c89 c90 c91 c92 c93 c94 c95 c96 c97 c98 c99 c100 c101 c102 c103 c104 c105 c106 c107 c108 c109 c110 c111 c112 c113 c114 c115 c116 c117 c118 c119 c120 c121 c122 c123 c124 c125 c126 c127 c128 c129 c130 c131 c132 c133 c134 c135 c136 c137 c138 c139 c140 c141 c142 c143 c144 c145 c146 c147 c148 c149 c150 c151 c152 c153 c154 c155 c156 c157 c158 c159 c160 c161 c162 c163 c164 c165 c166 c167 c168 c169 c170 c171 c172 c173 c174 c175 c176 c177 c178 c179 c180 c181 c182 c183 c184 c185 c186 c187 c188 c189 c190 c191 c192 c193 c194 c195 c196 c197 c198 c199 c200 c201 c202 c203 c204 c205 c206 c207 c208 c209 c210 c211 c212 c213 : Value} (W w1 : World) (Z R M H : Nat) (v p : Value) (A : Option Addr) (c : Nat) (pu : Value) (s : St) (N j : Nat) (h8 : 8 ≤ N) (hN : N ≤ 2048) (hj : j ≤ 1000) (hps : Hid (PS N j s)) (h : Hid (Lp W w1 ⟨Z, R, M, H, v, p⟩ s (.slice A N c) pu)) : Code.wp Tryd.prog puts_tail_code (bodyPost Tryd.prog Tryd.f3 fun e w' => e = Ending.returned (Value.bool true) ∧ Below W.heap.size W w') ⟨#[c0, c1, c2, c3, c4, c5, c6, .pointer (some ⟨Z, 0, none⟩), c8, .slice A N c, c10, c11, pu, c13, c14, c15, c16, c17, c18, c19, c20, c21, c22, c23, c24, c25, c26, c27, c28, c29, c30, c31, c32, c33, c34, c35, c36, c37, c38, c39, c40, c41, c42, c43, c44, c45, c46, c47, c48, c49, c50, c51, c52, c53, c54, c55, c56, c57, c58, c59, c60, c61, c62, c63, c64, c65, c66, c67, c68, c69, c70, c71, c72, c73, c74, c75, c76, c77, c78, c79, c80, c81, c82, c83, c84, c85, c86, c87, c88, c89, c90, c91, c92, c93, c94, c95, c96, c97, c98, c99, c100, c101, c102, c103, c104, c105, c106, c107, c108, c109, c110, c111, c112, c113, c114, c115, c116, c117, c118, c119, c120, c121, c122, c123, c124, c125, c126, c127, c128, c129, c130, c131, c132, c133, c134, c135, c136, c137, c138, c139, c140, c141, c142, c143, c144, c145, c146, c147, c148, c149, c150, c151, c152, c153, c154, c155, c156, c157, c158, c159, c160, c161, c162, c163, c164, c165, c166, c167, c168, c169, c170, c171, c172, c173, c174, c175, c176, c177, c178, c179, c180, c181, c182, c183, c184, c185, c186, c187, c188, c189, c190, c191, c192, c193, c194, c195, c196, c197, c198, c199, c200, c201, c202, c203, c204, c205, c206, c207, c208, c209, c210, c211, c212, c213], []⟩ w1 := by
  conv => arg 2; whnf
  obtain ⟨Ap, cp, rfl⟩ := Kd.R_slice h.out.pt
  have hpl := hps.out.len
  go_wp2_with fail
  refine (Hold_c Z R M H v p (.slice Ap s.put.length cp) oE emptyM s s.put w1 (Lib.hid h.out.run.is) (by omega) (Lib.hid h.out.pt) (fun b hb => (h.out.pn b hb).1)).mono ?_
  rintro e w2 ⟨rfl, hi, hm⟩
  have hs2 := stp_held (Z := Z) (R := R) (M := M) (H := H) (v := v) (p := p) hm
  have HU2 := Lib.hid (h.out.run.step hs2 hi)
  have HW2 := Lib.hid (h.out.wn.step hs2)
  have hp2 := row_out h.out.pt (fun b hb => (h.out.pn b hb).1) hs2
  have HP2 := Lib.hid hp2.1
  have HN2 := Lib.hid hp2.2
  clear hi hm hs2 hp2 h
  go_wp2_with fail
  refine (Forget_c Z R M H v p oE emptyM _ w2 (Lib.hid HU2.out.is)).mono ?_
  rintro e w3 ⟨rfl, hi, hs3⟩
  have HU3 := Lib.hid (HU2.out.step hs3 hi)
  have HW3 := Lib.hid (HW2.out.step hs3)
  have hp3 := row_out HP2.out HN2.out hs3
  have HP3 := Lib.hid hp3.1
  have HN3 := Lib.hid hp3.2
  clear hi hs3 hp3 HU2 HW2 HP2 HN2
  go_wp2_with fail
  refine (taken_R Z R M H v (.slice none 0 0) _ w3 (Lib.hid HU3.out.is) (ok_hold hps.out h8 hN (by omega) _ rfl)).mono ?_
  rintro e w5 ⟨u5, rfl, hr5, hd⟩
  have HU5 := Lib.hid (HU3.out.on hd)
  have HW5 := Lib.hid (HW3.out.on hd).c
  have HP5 := Lib.hid (Kd.R_below HP3.out hd)
  have HN5 := HN3
  obtain ⟨A5, c5, rfl⟩ := Kd.R_slice hr5.r
  have hxe : used emptyM { s with put := [], held := s.put.foldl hold1 s.held } = used emptyM s := used_hold hps.out (by omega) _ rfl
  have hxl : (used emptyM s).length = N := used_size s N hps.out.size
  have hr5' : Rw w5 ⟨Z, R, M, H, v, .slice none 0 0⟩ (.slice A5 (used emptyM { s with put := [], held := s.put.foldl hold1 s.held }).length c5) (used emptyM { s with put := [], held := s.put.foldl hold1 s.held }) := hr5
  have el : (used emptyM { s with put := [], held := s.put.foldl hold1 s.held }).length = N := by rw [hxe]; exact hxl
  rw [el, hxe] at hr5'
  have HG5 := Lib.hid hr5'.c
  rw [el]
  obtain ⟨xs, hxs⟩ : ∃ xs, used emptyM s = xs := ⟨_, rfl⟩
  rw [hxs] at HG5 HW5 hxl
  have HXl := Lib.hid hxl
  clear hd hr5 hr5' el hxe hxl hxs HU3 HW3 HP3 HN3
  go_wp2_with fail
  go_loopg [22] N (fun kq vi wr => ∃ (k : Nat), vi = .int .i64 (k : Int) ∧ kq + k = N ∧ Hid (Below w5.heap.size w5 wr))
  case atStart => exact ⟨0, rfl, by omega, Lib.hid (Below.refl _ _)⟩
  case round =>
    obtain ⟨k, rfl, hk, HBr⟩ := hrel
    cases gk with
    | zero =>
      have hkN : k = N := by omega
      have d1 : decide ((k : Int) < (N : Int)) = false := decide_eq_false (by omega)
      have d1b : decide (k < N) = false := decide_eq_false (by omega)
      clear hk hkN
      go_wp2_with fail
      refine (Free_c Z R M H v (.slice none 0 0) (.slice Ap s.put.length cp) oE emptyM _ s.put wr (Lib.hid (HU5.out.on HBr.out).is) (by have := hps.out.len; omega) (Lib.hid (Kd.R_below HP5.out HBr.out)) (fun b hb => HN5.out b hb)).mono ?_
      rintro e w6 ⟨rfl, hi, hm⟩
      have hU6 := (HU5.out.on HBr.out).step (stp_held hm) hi
      have eF : s.put.foldl free1 (s.put.foldl hold1 s.held) = [] := by
        rw [hps.out.held]; exact hold_free s.put (by have := hps.out.len; omega)
      have es6 : ({ { s with put := [], held := s.put.foldl hold1 s.held } with held := s.put.foldl free1 (s.put.foldl hold1 s.held) } : St) = { s with put := [], held := [] } := by rw [eF]
      have hU6' : Run W w6 ⟨Z, R, M, H, v, .slice none 0 0⟩ oE emptyM { s with put := [], held := [] } := by rw [← es6]; exact hU6
      have HU6 := Lib.hid hU6'
      clear hi hm hU6 eF es6 hU6' HP5 HN5 HU5 HG5 HW5 HXl HBr
      go_wp2_with fail
      refine (taken_R Z R M H v (.slice none 0 0) _ w6 (Lib.hid HU6.out.is) (ok_freed hps.out h8 hN)).mono ?_
      rintro e w8 ⟨u8, rfl, hr8, hd⟩
      have HU8 := Lib.hid (HU6.out.on hd)
      obtain ⟨A8, c8, rfl⟩ := Kd.R_slice hr8.r
      have hl8 : (used emptyM { s with put := [], held := [] }).length = N := used_size _ N hps.out.size
      obtain ⟨ys, hys⟩ : ∃ ys, used emptyM { s with put := [], held := [] } = ys := ⟨_, rfl⟩
      have HE2 := Lib.hid (show ys = used emptyM (sF N) by rw [← hys]; exact used_freed hps.out)
      rw [hys] at hr8 hl8
      rw [hl8] at hr8
      rw [hys, hl8]
      have HYl := Lib.hid hl8
      have HG8 := Lib.hid hr8.c
      clear hd hr8 hl8 hys HU6
      have z0 : ((cntT (ys.take 0) : Nat) : Int) = 0 := by simp [cntT]
      go_wp2_with fail
      go_loopg [23, 24] N (fun kq vn vi wr => ∃ (k : Nat), vn = .int .i64 ((cntT (ys.take k) : Nat) : Int) ∧ vi = .int .i64 (k : Int) ∧ kq + k = N ∧ wr = w8)
      case atStart => exact ⟨0, rfl, rfl, by omega, rfl⟩
      case round =>
        obtain ⟨k, rfl, rfl, hk, rfl⟩ := hrel
        cases gk with
        | zero =>
          have hkN : k = N := by omega
          have d1 : decide ((k : Int) < (N : Int)) = false := decide_eq_false (by omega)
          have d1b : decide (k < N) = false := decide_eq_false (by omega)
          have hc3 : cntT (ys.take k) = cntT ys := by rw [hkN, ← HYl.out, List.take_length]
          rw [hc3]
          clear hk hkN hc3
          go_wp2_with fail
          go_ret
          have z3 := cnt_F N h8
          rw [HE2.out, z3]
          exact ⟨rfl, HU8.out.bel⟩
        | succ k1 =>
          have hkN : k < N := by omega
          have hky : k < ys.length := by rw [HYl.out]; exact hkN
          have d1 : decide ((k : Int) < (N : Int)) = true := decide_eq_true (by omega)
          have d1b : decide (k < N) = true := decide_eq_true hkN
          have p1 : (0 ≤ (k : Int)) = True := eq_true (by omega)
          have p2 : ((k : Int) < (N : Int)) = True := eq_true (by omega)
          have q5 : IntKind.i64.wrap ((k : Int) + 1) = (k : Int) + 1 := IntWalk.i64_in _ (by omega)
          obtain ⟨ag, eg, hg0⟩ := at_B HG8.out (List.getElem?_eq_getElem hky)
          cases eg
          have hcl := cntT_le (ys.take k)
          rw [List.length_take] at hcl
          obtain ⟨m, hm⟩ : ∃ m, cntT (ys.take k) = m := ⟨_, rfl⟩
          have hst := cntT_step ys k hky
          rw [hm] at hst hcl ⊢
          obtain ⟨b, hb⟩ : ∃ b, ys[k] = b := ⟨_, rfl⟩
          rw [hb] at hst hg0
          have q6 : IntKind.i64.wrap ((m : Int) + 1) = (m : Int) + 1 := IntWalk.i64_in _ (by omega)
          have HSt := Lib.hid hst
          clear hst hb hm hcl
          cases b with
          | true =>
            go_wp2_with fail
            go_roundg k1
            case measure => exact Nat.lt_succ_self _
            case rel =>
              have z : cntT (ys.take (k + 1)) = m + 1 := by simpa using HSt.out
              exact ⟨k + 1, by rw [z]; simp, by simp, by omega, rfl⟩
          | false =>
            go_wp2_with fail
            go_roundg k1
            case measure => exact Nat.lt_succ_self _
            case rel =>
              have z : cntT (ys.take (k + 1)) = m := by simpa using HSt.out
              exact ⟨k + 1, by rw [z], by simp, by omega, rfl⟩
    | succ k1 =>
      have hkN : k < N := by omega
      have d1 : decide ((k : Int) < (N : Int)) = true := decide_eq_true (by omega)
      have d1b : decide (k < N) = true := decide_eq_true hkN
      have p1 : (0 ≤ (k : Int)) = True := eq_true (by omega)
      have p2 : ((k : Int) < (N : Int)) = True := eq_true (by omega)
      have q5 : IntKind.i64.wrap ((k : Int) + 1) = (k : Int) + 1 := IntWalk.i64_in _ (by omega)
      obtain ⟨b, hb⟩ : ∃ b, xs[k]? = some b := ⟨xs[k]'(by rw [HXl.out]; exact hkN), List.getElem?_eq_getElem _⟩
      obtain ⟨ag, eg, hg0⟩ := at_B (Kd.C_below HG5.out HBr.out) hb
      obtain ⟨aw, ew, hw0⟩ := at_B (Kd.C_below HW5.out HBr.out) hb
      cases eg
      cases ew
      clear hb
      go_upto_region 44 with fail
      have hg1 : (World.drew wr).cell? (ag.add k) = some (.bool b) := hg0
      have hw1 : (World.drew wr).cell? (aw.add k) = some (.bool b) := hw0
      refine start_ (n := 9) (S := fun w' => w'.cell? (ag.add k) = some (.bool b) ∧ w'.cell? (aw.add k) = some (.bool b)) (ds := []) #[false, false, false, false, false, false, false, false, false] (by kernel_rfl) rfl rfl ⟨hg1, hw1⟩ (fun hHeld => ?_)
      refine pure_ (i := 0) (N := some 186) (v := ?_) (a' := ?_) #[true, false, false, false, false, false, false, false, false] rfl rfl (by kernel_rfl) (fun _ _ _ h => h) (Or.inl ⟨by rfl, ?_⟩) ?_ ?_
      rotate_left
      · intro w'
        go_simp
        with_reducible rfl
      rotate_left
      · simp only [Act.put, List.setIfInBounds_toArray, List.set_cons_zero, List.set_cons_succ, i64_w, i32_w]
        rfl
      refine pure_ (i := 1) (N := some 187) (v := ?_) (a' := ?_) #[true, true, false, false, false, false, false, false, false] rfl rfl (by kernel_rfl) (fun _ _ _ h => h) (Or.inl ⟨by rfl, ?_⟩) ?_ ?_
      rotate_left
      · intro w'
        go_simp
        with_reducible rfl
      rotate_left
      · simp only [Act.put, List.setIfInBounds_toArray, List.set_cons_zero, List.set_cons_succ, i64_w, i32_w]
        rfl
      refine pure_ (i := 2) (N := some 188) (v := ?_) (a' := ?_) #[true, true, true, false, false, false, false, false, false] rfl rfl (by kernel_rfl) (fun _ _ _ h => h) (Or.inl ⟨by rfl, ?_⟩) ?_ ?_
      rotate_left
      · intro w'
        go_simp
        with_reducible rfl
      rotate_left
      · simp only [Act.put, List.setIfInBounds_toArray, List.set_cons_zero, List.set_cons_succ, i64_w, i32_w]
        rfl
      refine pure_ (i := 4) (N := some 190) (v := ?_) (a' := ?_) #[true, true, true, false, true, false, false, false, false] rfl rfl (by kernel_rfl) (fun _ _ _ h => h) (Or.inl ⟨by rfl, ?_⟩) ?_ ?_
      rotate_left
      · intro w'
        go_simp
        with_reducible rfl
      rotate_left
      · simp only [Act.put, List.setIfInBounds_toArray, List.set_cons_zero, List.set_cons_succ, i64_w, i32_w]
        rfl
      refine pure_ (i := 5) (N := some 191) (v := ?_) (a' := ?_) #[true, true, true, false, true, true, false, false, false] rfl rfl (by kernel_rfl) (fun _ _ _ h => h) (Or.inl ⟨by rfl, ?_⟩) ?_ ?_
      rotate_left
      · intro w'
        go_simp
        with_reducible rfl
      rotate_left
      · simp only [Act.put, List.setIfInBounds_toArray, List.set_cons_zero, List.set_cons_succ, i64_w, i32_w]
        rfl
      refine pure_ (i := 6) (N := some 192) (v := ?_) (a' := ?_) #[true, true, true, false, true, true, true, false, false] rfl rfl (by kernel_rfl) (fun _ _ _ h => h) (Or.inl ⟨by rfl, ?_⟩) ?_ ?_
      rotate_left
      · intro w'
        go_simp
        with_reducible rfl
      rotate_left
      · simp only [Act.put, List.setIfInBounds_toArray, List.set_cons_zero, List.set_cons_succ, i64_w, i32_w]
        rfl
      refine take_ (i := 3) (N := some 189) (v := ?_) (a' := ?_) #[true, true, true, true, true, true, true, false, false] rfl rfl (by kernel_rfl) (fun _ _ _ h => h) (Or.inl ⟨by rfl, ?_⟩) hHeld ?_ ?_
      rotate_left
      · rintro w' ⟨s0, s1⟩
        go_simp
        with_reducible rfl
      rotate_left
      · simp only [Act.put, List.setIfInBounds_toArray, List.set_cons_zero, List.set_cons_succ, i64_w, i32_w]
        rfl
      refine take_ (i := 7) (N := some 193) (v := ?_) (a' := ?_) #[true, true, true, true, true, true, true, true, false] rfl rfl (by kernel_rfl) (fun _ _ _ h => h) (Or.inl ⟨by rfl, ?_⟩) hHeld ?_ ?_
      rotate_left
      · rintro w' ⟨s0, s1⟩
        go_simp
        with_reducible rfl
      rotate_left
      · simp only [Act.put, List.setIfInBounds_toArray, List.set_cons_zero, List.set_cons_succ, i64_w, i32_w]
        rfl
      refine pure_ (i := 8) (N := some 194) (v := ?_) (a' := ?_) #[true, true, true, true, true, true, true, true, true] rfl rfl (by kernel_rfl) (fun _ _ _ h => h) (Or.inl ⟨by rfl, ?_⟩) ?_ ?_
      rotate_left
      · intro w'
        go_simp
        with_reducible rfl
      rotate_left
      · simp only [Act.put, List.setIfInBounds_toArray, List.set_cons_zero, List.set_cons_succ, i64_w, i32_w]
        rfl
      refine done_ (by kernel_rfl) ?_
      have HB2 := below_to HBr (Nat.le_refl _) (show Below wr.heap.size wr (World.drew wr) from (Below.refl _ _).drew)
      clear hHeld hg0 hw0 hg1 hw1 HBr
      have tb : (b != b) = false := by cases b <;> rfl
      have tb2 : (b == b) = true := by cases b <;> rfl
      generalize (World.drew wr) = wr1 at *
      go_wp2_with fail
      go_roundg k1
      case measure => exact Nat.lt_succ_self _
      case rel => exact ⟨k + 1, by simp, by omega, HB2⟩
end Go.Proofs.YtaodgnladjafoaaDoor.Sto
