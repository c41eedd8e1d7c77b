/- Words that the proof uses. -/
import Derived.Test.YtaodgnladjafoaaGreatDoorStore2V
import Derived.Test.YtaodgnladjafoaaGreatDoorHeld2V
set_option linter.unusedVariables false
set_option linter.unusedSimpArgs false
namespace Go.Proofs.YtaodgnladjafoaaGreatDoor.Sto
open Go.RowKit Go.Proofs.YtaodgnladjafoaaGreatDoorW.PrintWords Go.Proofs.YtaodgnladjafoaaGreatDoorW.PrintLast Go.Proofs.YtaodgnladjafoaaGreatDoorW.PrintMore Go.Proofs.YtaodgnladjafoaaGreatDoor.Md Go.Proofs.YtaodgnladjafoaaGreatDoor.Mni Go.Proofs.YtaodgnladjafoaaGreatDoor.QStoreLasts
open Go.Proofs.YtaodgnladjafoaaGreatDoor.Dk (Dsk IsD Ft)
open Go.Proofs.YtaodgnladjafoaaGreatDoor.Err (Laid IsErr code_nil code_c Chain at_some at_nil)
theorem exec_look {ρ : Operand → Value} {oo : Oper} {x y : Operand} {W : World} {H : Nat} {r : Rf} {g : Int} (ho : oo.op = .lookup 80 x y false) (hx : ρ x = .map (some H)) (hy : ρ y = .agg (ra r)) (hr : (Instr.lookup 80 (.map (some H)) (.agg (ra r)) false).run Tryz.prog W = .ok (.int .i64 g) W) : (execOp ρ oo).run Tryz.prog W = .ok (.value (.int .i64 g)) W := by
  unfold execOp; simp only [ho, hx, hy, hr, Sem.run_bind, Sem.run_pure, Result.andThen_ok]
theorem exec_entry {ρ : Operand → Value} {oo : Oper} {x y : Operand} {W W1 : World} {H : Nat} {r : Rf} {u : Value} (ho : oo.op = .mapEntry 80 x y) (hx : ρ x = .map (some H)) (hy : ρ y = .agg (ra r)) (hr : (Instr.mapEntry 80 (.map (some H)) (.agg (ra r))).run Tryz.prog W = .ok u W1) : (execOp ρ oo).run Tryz.prog W = .ok (.value u) W1 := by
  unfold execOp; simp only [ho, hx, hy, hr, Sem.run_bind, Sem.run_pure, Result.andThen_ok]
theorem exec_estore {ρ : Operand → Value} {oo : Oper} {x y z : Operand} {W W1 : World} {H : Nat} {st u : Value} (ho : oo.op = .entryStore 80 x y z) (hx : ρ x = .map (some H)) (hy : ρ y = st) (hz : ρ z = u) (hr : (Instr.entryStore 80 (.map (some H)) st u).run Tryz.prog W = .ok () W1) : (execOp ρ oo).run Tryz.prog W = .ok .skip W1 := by
  unfold execOp; simp only [ho, hx, hy, hz, hr, Sem.run_bind, Sem.run_pure, Result.andThen_ok]
theorem exec_del {ρ : Operand → Value} {oo : Oper} {x y : Operand} {W W1 : World} {H : Nat} {r : Rf} (ho : oo.op = .call { callee := .builtin .delete, args := #[x, y], argTypes := #[80, 36] }) (hx : ρ x = .map (some H)) (hy : ρ y = .agg (ra r)) (hr : ∀ ty, (Builtin.delete_ #[80, 36] ty #[.map (some H), .agg (ra r)]).run Tryz.prog W = .ok (.tuple #[]) W1) : (execOp ρ oo).run Tryz.prog W = .ok (.value (.tuple #[])) W1 := by
  have e1 : (#[x, y] : Array Operand).map ρ = #[.map (some H), .agg (ra r)] := by simp [hx, hy]
  have e2 : (execOp ρ oo) = (do pure (.value (← Builtin.delete_ #[80, 36] oo.type ((#[x, y] : Array Operand).map ρ)))) := by
    unfold execOp; simp only [ho]; rfl
  rw [e2, e1]
  simp only [hr, Sem.run_bind, Sem.run_pure, Result.andThen_ok]
theorem IsS.setHeld {w w1 : World} {Z R M H : Nat} {v p : Value} {o : Mni.Loc} {m : Man} {s : St} {L : List (Rf × Int)} (h : IsS w ⟨Z, R, M, H, v, p⟩ o m s) (k : Mod (· = H) w w1) (hH : HeldAt w1 H L) : IsS w1 ⟨Z, R, M, H, v, p⟩ o m { s with held := L } := by
  refine ⟨?_, h.dsk.mod k (fun i hi e => (h.n2 i hi).2.1 e), hH, row_on (α := Rf) rfl h.put k (fun b hb (e : b = H) => h.n3.2 (e ▸ hb)), ?_, h.n1, h.n2, h.n3⟩
  · have := k.blk h.blk (fun e => h.n1 e)
    simpa [sa] using this
  · exact h.man_of ⟨k.mono (fun i _ (e : i = H) => .inr (.inl e)), fun i hi => .inl hi⟩
theorem stp_held {w w1 : World} {Z R M H : Nat} {v p : Value} (k : Mod (· = H) w w1) : Stp w ⟨Z, R, M, H, v, p⟩ w1 ⟨Z, R, M, H, v, p⟩ := ⟨k.mono (fun i _ (e : i = H) => .inr (.inl e)), fun i hi => .inl hi⟩
theorem look_put {w : World} {H : Nat} {L : List (Rf × Int)} {r : Rf} {g : Int} (h : HeldAt w H (putH L r g)) : (Instr.lookup 80 (.map (some H)) (.agg (ra r)) false).run Tryz.prog w = .ok (.int .i64 g) w := by
  have := look_H w H _ r h
  rwa [getH_put, if_pos (sameR_self r)] at this
theorem fold_snoc {α β : Type} (f : β → α → β) (b : β) (l : List α) (j : Nat) (x : α) (hj : j < l.length) (hx : l[j] = x) : (l.take (j + 1)).foldl f b = f ((l.take j).foldl f b) x := by
  rw [← List.take_append_getElem hj, List.foldl_append, hx]; rfl
theorem del_all {w : World} {H : Nat} {L : List (Rf × Int)} {r : Rf} (h : ∀ ty : TypeId, ∃ w', (Builtin.delete_ #[80, 36] ty #[.map (some H), .agg (ra r)]).run Tryz.prog w = .ok (.tuple #[]) w' ∧ HeldAt w' H (delH L r) ∧ Mod (· = H) w w' ∧ w'.heap.size = w.heap.size) : ∃ w', (∀ ty : TypeId, (Builtin.delete_ #[80, 36] ty #[.map (some H), .agg (ra r)]).run Tryz.prog w = .ok (.tuple #[]) w') ∧ HeldAt w' H (delH L r) ∧ Mod (· = H) w w' ∧ w'.heap.size = w.heap.size := by
  obtain ⟨w', h1, h2⟩ := h 0
  exact ⟨w', fun ty => h1, h2⟩
set_option maxHeartbeats 4000000 in
theorem Forget_c (Z R M H : Nat) (v p : Value) (o : Mni.Loc) (m : Man) (s : St) (w : World) (h : Hid (IsS w ⟨Z, R, M, H, v, p⟩ o m s)) :
    Calls Tryz.prog 29 #[.pointer (some ⟨Z, 0, none⟩)] w fun e w' => e = .returned (.tuple #[]) ∧ IsS w' ⟨Z, R, M, H, v, .slice none 0 0⟩ o m { s with put := [] } ∧ Stp w ⟨Z, R, M, H, v, p⟩ w' ⟨Z, R, M, H, v, .slice none 0 0⟩ := by
  have c9 := h.out.cs.2.2.1
  have f9 : w.frozen? ⟨Z, 9, none⟩ = false := by
    have hb := h.out.blk
    have hb' : w.heap[Z]? = _ := hb
    simp [World.frozen?, hb']
  go_enter Tryz.func29, Tryz.ntmps29
  go_wp2_with fail
  go_end0
  have z := h.out.setPut (p' := .slice none 0 0) (l := []) (Mod.refl _ _) (Kd.R_nil _ _ _ _ _) (.inl rfl)
  exact ⟨rfl, z.1, z.2⟩
theorem Gen_c (Z R M H : Nat) (v p : Value) (o : Mni.Loc) (m : Man) (s : St) (w : World) (h : Hid (IsS w ⟨Z, R, M, H, v, p⟩ o m s)) :
    Calls Tryz.prog 15 #[.pointer (some ⟨Z, 0, none⟩)] w fun e w' => e = .returned (.int .u32 s.gen) ∧ Below w.heap.size w w' := by
  have c1 := h.out.cs.2.1
  go_enter Tryz.func15, Tryz.ntmps15
  go_wp2_with fail
  go_ret
  exact ⟨rfl, Below.refl _ _⟩
set_option maxHeartbeats 4000000 in
set_option maxRecDepth 100000 in
theorem Get_ok (Z R M H : Nat) (v p : Value) (o : Mni.Loc) (m : Man) (s : St) (r : Rf) (n : Nat) (t : ByteArray) (w : World) (h : Hid (IsS w ⟨Z, R, M, H, v, p⟩ o m s)) (hdn : Hid (s.d.down = false)) (hn : Hid (Blb.pagesV r.f1 = (n : Int))) (hn1 : 1 ≤ n) (hx0 : 0 ≤ r.f0) (hx1 : r.f0 + (n : Int) ≤ s.d.size) (hsz : s.d.size ≤ 2048) (hl : s.d.soft.length ≤ 9000) (ht : Hid (strOfNums ((Blb.gs s.d r.f0 n).take r.f1.toNat) = t)) (hsum : AdM.sum t = r.f2) :
    Calls Tryz.prog 23 #[.pointer (some ⟨Z, 0, none⟩), .agg (ra r)] w fun e w' => e = .returned (.tuple #[.string t, .nilIface]) ∧ Below w.heap.size w w' := by
  go_enter Tryz.func23, Tryz.ntmps23
  go_upto_region 1 with fail
  have hd1 : Below w.heap.size w (w.alloc (Obj.cells (ra r) 36 (0, 0))) := (Below.refl _ _).alloc (Nat.le_refl _) _
  have HK1 := Lib.hid (heap_alloc_last w (Obj.cells (ra r) 36 (0, 0)))
  have H1 := Lib.hid (h.out.on hd1)
  have HB1 := Lib.hid hd1
  obtain ⟨B, hB⟩ : ∃ B, w.heap.size = B := ⟨_, rfl⟩
  rw [hB] at HK1
  simp only [hB]
  generalize (w.alloc (Obj.cells (ra r) 36 (0, 0))) = w1 at *
  clear hd1 hB h
  go_upto_region 3 with fail
  have hdd : Below w1.heap.size w1 (World.drew w1) := (Below.refl _ _).drew
  have H2 := Lib.hid (H1.out.on hdd)
  have HB2 := below_to HB1 (Nat.le_refl _) hdd
  have HK2 := blk_to HK1 hdd
  clear hdd H1 HB1 HK1
  refine start_ (n := 10) (S := fun w' => w'.cell? ⟨Z, 0, none⟩ = some (.pointer (some ⟨R, 0, none⟩)) ∧ w'.heap[B]? = some (Obj.cells (ra r) 36 (0, 0))) (ds := []) (bzz 10 0) (by kernel_rfl) rfl rfl ⟨H2.out.cs.1, HK2.out⟩ (fun hHeld => ?_)
  refine rpz 0 10 ?_ (bzz 10 1) rfl rfl ?_ ?_ ?_ ?_
  rotate_left
  · intro w'
    go_simp
    with_reducible rfl
  rotate_left
  · simp only [zaP, zsA, zsZ, zsS, i64_w, i32_w]
    rfl
  refine rpz 1 11 ?_ (bzz 10 3) rfl rfl ?_ ?_ ?_ ?_
  rotate_left
  · intro w'
    go_simp
    with_reducible rfl
  rotate_left
  · simp only [zaP, zsA, zsZ, zsS, i64_w, i32_w]
    rfl
  refine rpz 2 12 ?_ (bzz 10 7) rfl rfl ?_ ?_ ?_ ?_
  rotate_left
  · intro w'
    go_simp
    with_reducible rfl
  rotate_left
  · simp only [zaP, zsA, zsZ, zsS, i64_w, i32_w]
    rfl
  refine rtz 3 13 ?_ (bzz 10 15) rfl rfl hHeld ?_ ?_ ?_ ?_
  rotate_left
  · rintro w' ⟨s0, s1⟩
    go_simp
    with_reducible rfl
  rotate_left
  · simp only [zaP, zsA, zsZ, zsS, i64_w, i32_w]
    rfl
  refine rtz 4 14 ?_ (bzz 10 31) rfl rfl hHeld ?_ ?_ ?_ ?_
  rotate_left
  · rintro w' ⟨s0, s1⟩
    refine (exec_loadR (x := .tmp 3) ?_ ?_  s1).trans ?_
    · rfl
    · rfl
    · with_reducible rfl
  rotate_left
  · simp only [zaP, zsA, zsZ, zsS, i64_w, i32_w]
    rfl
  refine roz 5 15 (bzz 10 63) rfl rfl (fun K hK => ?_)
  refine goes_ Tryz.func43 (by kernel_rfl) rfl #[.pointer (some ⟨R, 0, none⟩), .agg (Blb.refA r.f0 r.f1 r.f2)] (by rfl) rfl rfl (by simp only [List.map_toArray, List.map_cons, List.map_nil]; rfl) ?_
  with_reducible refine (Blb.get_ok _ R M v s.d r.f0 r.f1 r.f2 n t (Lib.hid H2.out.dsk) hdn hn hn1 hx0 hx1 hsz hl ht).mono ?_
  rintro e w3 ⟨h1, _, hd⟩
  rw [h1 hsum]
  refine ⟨_, rfl, ?_⟩
  have HB3 := below_to HB2 (Nat.le_refl _) hd
  have H3 := Lib.hid (H2.out.on hd)
  have HK3 := blk_to HK2 hd
  clear hd h1
  refine hK.out _ _ ⟨H3.out.cs.1, HK3.out⟩ (fun hHeld => ?_)
  clear hK K
  refine norm_ (a' := ?_) ?_ ?_
  rotate_left
  · show Act.put _ (some 15) _ = _
    simp only [zaP, zsA, zsZ, zsS, i64_w, i32_w]
    rfl
  refine rpz 6 16 ?_ (bzz 10 127) rfl rfl ?_ ?_ ?_ ?_
  rotate_left
  · intro w'
    go_simp
    with_reducible rfl
  rotate_left
  · simp only [zaP, zsA, zsZ, zsS, i64_w, i32_w]
    rfl
  refine rpz 7 17 ?_ (bzz 10 255) rfl rfl ?_ ?_ ?_ ?_
  rotate_left
  · intro w'
    go_simp
    with_reducible rfl
  rotate_left
  · simp only [zaP, zsA, zsZ, zsS, i64_w, i32_w]
    rfl
  refine rpz 8 4 ?_ (bzz 10 511) rfl rfl ?_ ?_ ?_ ?_
  rotate_left
  · intro w'
    go_simp
    with_reducible rfl
  rotate_left
  · simp only [zaP, zsA, zsZ, zsS, i64_w, i32_w]
    rfl
  refine rpz 9 5 ?_ (bzz 10 1023) rfl rfl ?_ ?_ ?_ ?_
  rotate_left
  · intro w'
    go_simp
    with_reducible rfl
  rotate_left
  · simp only [zaP, zsA, zsZ, zsS, i64_w, i32_w]
    rfl
  refine done_ (by kernel_rfl) ?_
  clear hHeld H2 HB2 HK2
  go_wp2_with fail
  go_ret2
  exact ⟨rfl, HB3.out⟩
end Go.Proofs.YtaodgnladjafoaaGreatDoor.Sto
