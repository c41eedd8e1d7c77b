/- Words that the proof uses. -/
import Derived.Test.YtaodgnladjafoaaGreatDoorBlob0V
import Derived.Laws.CopyRow
set_option linter.unusedVariables false
set_option linter.unusedSimpArgs false
namespace Go.Proofs.YtaodgnladjafoaaGreatDoor.Blb
open Go.Proofs.YtaodgnladjafoaaGreatDoor.AdM (sum)
open Go.RowKit Go.Proofs.YtaodgnladjafoaaGreatDoor.QStoreLasts Go.Proofs.YtaodgnladjafoaaGreatDoorW.PrintWords Go.Proofs.YtaodgnladjafoaaGreatDoorW.PrintLast Go.Proofs.YtaodgnladjafoaaGreatDoorW.PrintMore Go.Proofs.YtaodgnladjafoaaGreatDoor.CdM Go.Proofs.YtaodgnladjafoaaGreatDoor.Md Go.Proofs.YtaodgnladjafoaaGreatDoor.Dk
open Go.Extern.Stop (cell)
open Go.Proofs.YtaodgnladjafoaaGreatDoor.Err (Laid IsErr code_nil Chain at_some at_nil)
def over (q : Pg) (s : ByteArray) : Pg := ⟨s.data.toList.take 64 ++ q.1.drop (min s.size 64), by
  have h : s.data.toList.length = s.size := by simp
  rw [List.length_append, List.length_take, List.length_drop, q.2, h]; omega⟩
def pgOf (s : ByteArray) (i : Nat) : Pg := over pz (s.extract (i * 64) s.size)
theorem copy_run (W : World) (g : Nat) (q : Pg) (s : ByteArray) (ty : TypeId) (hg : W.heap[g]? = some (Obj.cells (pa q) 100 (0, 0))) :
    (Builtin.copy_ #[129, 9] ty #[.slice (some ⟨g, 0, none⟩) 64 64, .string s]).run Tryz.prog W = .ok (goInt (Nat.min s.size 64)) (W.setRow g (pa (over q s))) := by
  obtain ⟨cs, hcs⟩ : ∃ cs : List Value, cs = (s.data.toList.take 64).map cell := ⟨_, rfl⟩
  have hsl : s.data.toList.length = s.size := by simp
  have hl : cs.length = Nat.min s.size 64 := by rw [hcs, List.length_map, List.length_take, hsl]; show min 64 s.size = min s.size 64; omega
  have h1 : ∀ v ∈ cs, v.oneCell' = true := by
    intro v hv
    rw [hcs, List.mem_map] at hv
    obtain ⟨b, _, rfl⟩ := hv
    rfl
  have hst := run_storeCells_at Tryz.prog g 0 100 cs 0 (pa q) W hg (by rw [pa_size, hl]; show 0 + 0 + min s.size 64 ≤ 64; omega) h1
  have hrow : ((pa q).toList.take (0 + 0) ++ cs ++ (pa q).toList.drop (0 + 0 + cs.length)).toArray = pa (over q s) := by
    apply Array.toList_inj.1
    rw [pa_list, pa_list]
    simp only [List.take_zero, List.nil_append, Nat.zero_add, hl]
    show cs ++ (q.1.map cell).drop (min s.size 64) = (s.data.toList.take 64 ++ q.1.drop (min s.size 64)).map cell
    rw [List.map_append, hcs, List.map_drop]
  have hc : List.take (Nat.min s.size 64) (List.map (fun b => Value.int .u8 (b.toNat : Int)) s.data.toList) = cs := by
    rw [hcs, ← List.map_take]
    have e : List.take (Nat.min s.size 64) s.data.toList = List.take 64 s.data.toList := by
      rw [List.take_eq_take_iff, hsl]
      show min (min s.size 64) s.size = min 64 s.size
      omega
    rw [e]; rfl
  have hsz : (Tryz.prog.info? 5).map (·.size) = some 1 := by kernel_rfl
  cases hq : Tryz.prog.info? 5 with
  | none => simp [hq] at hsz
  | some i =>
    have hi : i.size = 1 := by simpa [hq] using hsz
    simp [Builtin.copy_, run_underlying Tryz.underlying129, Builtin.lenOf, Builtin.firstCells, sizeOf, typeInfo, hq, hi]
    rw [hc, hst, hrow]
    rfl
theorem step_copy {ops : Array Oper} {o : Oper} {a : Go.Act} {W : World} {K : Go.Act → World → Prop} {Q : Exit → Go.Act → World → Prop} {E : Prop} (hw : Region.wanted o (yielded ops a.tmps) = true) (g : Nat) (q : Pg) (s : ByteArray) (hg : W.heap[g]? = some (Obj.cells (pa q) 100 (0, 0))) (d x : Operand)
    (ho : o.op = .call { callee := .builtin .copy, args := #[d, x], argTypes := #[129, 9] }) (hd : a.eval d = .slice (some ⟨g, 0, none⟩) 64 64) (hx : a.eval x = .string s)
    (h : K (a.put o.dst (goInt (Nat.min s.size 64))) (W.setRow g (pa (over q s)))) : if Region.wanted o (yielded ops a.tmps) = true then Oper.wp Tryz.prog o a W K Q else E := by
  rw [if_pos hw]
  have hrun := copy_run W g q s o.type hg
  unfold Oper.wp
  simp [execOp, ho, resolve, invoke, builtin, hd, hx, hrun, Result.andThen]
  exact h
def pgs (s : ByteArray) (at_ : Int) : Nat → List (Int × Pg)
  | 0 => []
  | n + 1 => pgs s at_ n ++ [(at_ + (n : Int), pgOf s n)]
theorem pgs_length (s : ByteArray) (at_ : Int) : ∀ n, (pgs s at_ n).length = n
  | 0 => rfl
  | n + 1 => by simp [pgs, pgs_length s at_ n]
abbrev refA (x y z : Int) : Array Value := #[.int .i64 x, .int .i64 y, .int .u32 z]
theorem put_results (tmps : Array Value) (W : World) (b : Nat) (x y z : Int) (e : Value) (h4 : tmps.getD 6 undef = .pointer (some ⟨b, 0, none⟩)) (h5 : tmps.getD 7 undef = e) (h : W.heap[b]? = some (Obj.cells (refA x y z) 36 (0, 0))) : (results Tryz.f37 tmps).run Tryz.prog W = .ok (.tuple #[.agg (refA x y z), e]) W := by
  have hl : (loadVar 36 ⟨b, 0, none⟩).run Tryz.prog W = .ok (.agg (refA x y z)) W := run_loadVar_row W b 36 36 (refA x y z) (0, 0) _ h Tryz.underlying36 rfl (by kernel_rfl)
  have h4' : tmps[6]?.getD undef = .pointer (some ⟨b, 0, none⟩) := by simpa using h4
  have h5' : tmps[7]?.getD undef = e := by simpa using h5
  simp [results, Tryz.results37, asAddr, h4', h5', hl]
theorem ft_new {R M : Nat} {v v' : Value} {w : World} (hv : v'.ownBlock = v.ownBlock ∨ ∃ b, v'.ownBlock = some b ∧ w.heap.size ≤ b) : ∀ i, Ft R M v' i → Ft R M v i ∨ w.heap.size ≤ i := by
  rintro i (rfl | rfl | e)
  · exact .inl (.inl rfl)
  · exact .inl (.inr (.inl rfl))
  · rcases hv with g | ⟨b, g, hb⟩
    · exact .inl (.inr (.inr (by rw [← g]; exact e)))
    · rw [g] at e; cases e; exact .inr hb
theorem set1 {W : World} {b : Nat} {cs : Array Value} {t : TypeId} (h : W.heap[b]? = some (Obj.cells cs t (0, 0))) (j : Nat) (u : Value) : (W.setCell ⟨b, j, none⟩ u).heap[b]? = some (Obj.cells (cs.setIfInBounds j u) t (0, 0)) := by
  show (W.heap.modify b _)[b]? = _
  rw [Array.getElem?_modify]
  simp [h]
theorem set3 {W : World} {b : Nat} {x y z : Int} (h : W.heap[b]? = some (Obj.cells (refA x y z) 36 (0, 0))) (x' y' z' : Int) : (((W.setCell ⟨b, 0, none⟩ (.int .i64 x')).setCell ⟨b, 1, none⟩ (.int .i64 y')).setCell ⟨b, 2, none⟩ (.int .u32 z')).heap[b]? = some (Obj.cells (refA x' y' z') 36 (0, 0)) :=
  set1 (set1 (set1 h 0 _) 1 _) 2 _
theorem ref_keep {w wr : World} {K : Nat} {x y z : Int} (h : w.heap[K]? = some (Obj.cells (refA x y z) 36 (0, 0))) (hb : Below w.heap.size w wr) : wr.cell? ⟨K, 0, none⟩ = some (.int .i64 x) ∧ wr.cell? ⟨K, 1, none⟩ = some (.int .i64 y) ∧ wr.cell? ⟨K, 2, none⟩ = some (.int .u32 z) := by
  have h2 := (hb.block K (Err.lt_of_block h)).trans h
  exact ⟨Err.cell_of_blk h2 0, Err.cell_of_blk h2 1, Err.cell_of_blk h2 2⟩
set_option maxHeartbeats 8000000 in
set_option maxRecDepth 100000 in
theorem put_ok (w : World) (R M : Nat) (v : Value) (d : Dsk) (x : Int) (s : ByteArray) (n : Nat) (h : Hid (IsD w R M v d)) (hdn : Hid (d.down = false)) (hb : Hid (d.budget = -1)) (hs : s.size ≤ 16384) (hn : Hid (pagesV (s.size : Int) = (n : Int))) (hn1 : 1 ≤ n) (hx0 : 0 ≤ x) (hx1 : x + (n : Int) ≤ d.size) (hsz : d.size ≤ 2048) (hl : d.soft.length + n ≤ 9000) :
    Calls Tryz.prog 37 #[.pointer (some ⟨R, 0, none⟩), .int .i64 x, .string s] w fun ev w' => ev = .returned (.tuple #[.agg (refA x (s.size : Int) (sum s)), .nilIface]) ∧ ∃ v', Mod (Ft R M v) w w' ∧ IsD w' R M v' { d with soft := d.soft ++ pgs s x n } ∧ (∀ i, Ft R M v' i → Ft R M v i ∨ w.heap.size ≤ i) := by
  have hp := pagesV_le (s.size : Int)
  rw [hn.out] at hp
  have t1 : ((n : Int) == 0) = false := beq_eq_false_iff_ne.2 (by omega)
  have t1' : (n == 0) = false := beq_eq_false_iff_ne.2 (by omega)
  have hright : rightV x (s.size : Int) d.size = true := by
    unfold rightV
    rw [hn.out, decide_eq_true (by omega), decide_eq_true hx0, decide_eq_true (by omega)]; rfl
  have HR := Lib.hid hright
  clear hright
  go_enter Tryz.func37, Tryz.ntmps37
  go_wp2_with fail
  have hb1 : Below w.heap.size w (w.alloc (Obj.cells #[.int .i64 0, .int .i64 0, .int .u32 0] 36 (0, 0))) := (Below.refl _ _).alloc (Nat.le_refl _) _
  have HK1 := Lib.hid (heap_alloc_last w (Obj.cells (refA 0 0 0) 36 (0, 0)))
  refine (sum_c s _ (by omega)).mono ?_
  rintro e w2 ⟨rfl, hd2⟩
  have HB2 := Lib.hid (hb1.trans (hd2.mono hb1.size))
  have HK2 := Lib.hid ((hd2.block w.heap.size (by simp)).trans HK1.out)
  obtain ⟨sm, hsm⟩ : ∃ sm, sum s = sm := ⟨_, rfl⟩
  have HSm := Lib.hid hsm
  rw [hsm]
  clear hd2 HK1 hb1 hsm
  go_wp2_with fail
  have hb3 : Below w2.heap.size w2 (w2.alloc (Obj.cells (refA x (s.size : Int) sm) 36 (0, 0))) := (Below.refl _ _).alloc (Nat.le_refl _) _
  have HK3 := Lib.hid (heap_alloc_last w2 (Obj.cells (refA x (s.size : Int) sm) 36 (0, 0)))
  have HB3 := Lib.hid (HB2.out.trans (hb3.mono HB2.out.size))
  have HZ3 := blk_to HK2 hb3
  have hne3 : w.heap.size ≠ w2.heap.size := by have := Err.lt_of_block HK2.out; omega
  obtain ⟨K, hK⟩ : ∃ K, w2.heap.size = K := ⟨_, rfl⟩
  obtain ⟨w3, hw3⟩ : ∃ w3, w2.alloc (Obj.cells (refA x (s.size : Int) sm) 36 (0, 0)) = w3 := ⟨_, rfl⟩
  rw [hw3] at HK3 HB3 HZ3
  rw [hK] at HK3 hne3
  have hKg : w.heap.size ≤ K := by rw [← hK]; exact HB2.out.size
  rw [hw3]
  simp only [hK]
  clear hb3 hw3 hK HB2 HK2
  refine (pages_c (s.size : Int) (n : Int) hn _).mono ?_
  rintro e w4 ⟨rfl, hd⟩
  have HK4 := blk_to HK3 hd.below
  have HB4 := below_to HB3 (Nat.le_refl _) hd.below
  have HZ4 := blk_to HZ3 hd.below
  clear hd HK3 HB3 HZ3
  go_wp2_with fail
  have HD4 := Lib.hid (h.out.on HB4.out)
  have HBd := Lib.hid (show Below w4.heap.size w4 w4.drew from (Below.refl _ _).drew)
  have hS4 := ref_keep HK4.out HBd.out
  go_region_held3 (fun w' => w'.cell? ⟨K, 0, none⟩ = some (.int .i64 x) ∧ w'.cell? ⟨K, 1, none⟩ = some (.int .i64 (s.size : Int)) ∧ w'.cell? ⟨K, 2, none⟩ = some (.int .u32 sm))
    (first | with_reducible exact hS4 | with_reducible assumption)
    (first
      | (go_at_call 39
         refine (size_c _ R M v d (Lib.hid (HD4.out.on HBd.out))).mono ?_
         rintro e w5 ⟨rfl, hd5⟩
         have HB5 := Lib.hid (HBd.out.trans hd5)
         have hS5 := ref_keep HK4.out HB5.out
         clear hd5)
      | (go_at_call 62
         refine (right_c x (s.size : Int) sm d.size _ (by omega) (by omega)).mono ?_
         rintro e w6 ⟨rfl, hd6⟩
         rw [HR.out]
         have HB6 := Lib.hid (HB5.out.trans (hd6.mono HB5.out.size))
         have hS6 := ref_keep HK4.out HB6.out
         clear hd6))
  have HK6 := blk_to HK4 HB6.out
  have HZ6 := blk_to HZ4 HB6.out
  have HBx := below_to HB4 (Nat.le_refl _) HB6.out
  clear hS4 hS5 hS6 HBd HB5 HB6 HD4 HB4 HK4 HZ4
  go_wp2_with fail
  refine (pages_c (s.size : Int) (n : Int) hn _).mono ?_
  rintro e w7 ⟨rfl, hd⟩
  have HK7 := blk_to HK6 hd.below
  have HZ7 := blk_to HZ6 hd.below
  have HB7 := below_to HBx (Nat.le_refl _) hd.below
  clear hd HK6 HZ6 HBx
  go_wp2_with fail
  have hpv : n * 64 ≤ s.size + 63 := by
    have := hn.out
    unfold pagesV at this
    rw [if_neg (by intro hlt; rw [if_pos hlt] at this; omega), if_neg (by omega)] at this
    omega
  have hd7 : IsD w7 R M v { d with soft := d.soft ++ pgs s x 0 } := by
    have e : d.soft ++ pgs s x 0 = d.soft := List.append_nil _
    rw [e]; exact h.out.on HB7.out
  have hft := h.out.ft_lt
  go_loopg [38] n (fun kq v0 wr => ∃ (i : Nat) (v' : Value), v0 = .int .i64 (i : Int) ∧ kq + i = n ∧ Hid (Mod (Ft R M v) w wr) ∧ Hid (IsD wr R M v' { d with soft := d.soft ++ pgs s x i }) ∧ Hid (∀ j, Ft R M v' j → Ft R M v j ∨ w.heap.size ≤ j) ∧ Hid (∀ j, Ft R M v' j → j ≠ w.heap.size ∧ j ≠ K) ∧
    Hid (wr.heap[K]? = some (Obj.cells (refA x (s.size : Int) sm) 36 (0, 0))) ∧ Hid (wr.heap[w.heap.size]? = some (Obj.cells (refA 0 0 0) 36 (0, 0))))
  case atStart => exact ⟨0, v, rfl, by omega, Lib.hid (Mod.of_below HB7.out (Nat.le_refl _)), Lib.hid hd7, Lib.hid (fun j hj => .inl hj), Lib.hid (fun j hj => by have := hft j hj; omega), HK7, HZ7⟩
  case round =>
    clear hd7 HK7 HZ7 HB7 hft
    obtain ⟨i, v', rfl, hk, HM, HD, HV, HN, HK, HZ⟩ := hrel
    cases gk with
    | zero =>
      have hin : i = n := by omega
      have c5 : decide ((i : Int) < (n : Int)) = false := decide_eq_false (by omega)
      have c5' : decide (i < n) = false := decide_eq_false (by omega)
      have HD2 := Lib.hid (show IsD wr R M v' { d with soft := d.soft ++ pgs s x n } by rw [← hin]; exact HD.out)
      clear hin hk HD
      obtain ⟨k0, k1, k2⟩ := ref_keep HK.out (Below.refl wr.heap.size wr)
      obtain ⟨z0, z1, z2⟩ := ref_keep HZ.out (Below.refl wr.heap.size wr)
      have f0 : wr.frozen? ⟨w.heap.size, 0, none⟩ = false := by simp [World.frozen?, HZ.out]
      have f1 : wr.frozen? ⟨w.heap.size, 1, none⟩ = false := by simp [World.frozen?, HZ.out]
      have f2 : wr.frozen? ⟨w.heap.size, 2, none⟩ = false := by simp [World.frozen?, HZ.out]
      go_wp2_with fail
      (try simp only [Exit.inBlock, Exit.then])
      refine bodyPost_ret (v := .tuple #[.agg (refA x (s.size : Int) sm), .nilIface]) ?_ rfl ?_
      · exact put_results _ _ w.heap.size x (s.size : Int) sm .nilIface rfl rfl (set3 HZ.out _ _ _)
      have hM3 : Mod (· = w.heap.size) wr (((wr.setCell ⟨w.heap.size, 0, none⟩ (.int .i64 x)).setCell ⟨w.heap.size, 1, none⟩ (.int .i64 (s.size : Int))).setCell ⟨w.heap.size, 2, none⟩ (.int .u32 sm)) :=
        (((Mod.refl (· = w.heap.size) wr).set ⟨w.heap.size, 0, none⟩ _ (.inl rfl)).set ⟨w.heap.size, 1, none⟩ _ (.inl rfl)).set ⟨w.heap.size, 2, none⟩ _ (.inl rfl)
      refine ⟨by rw [HSm.out], v', HM.out.trans hM3 (fun i hi (e : i = w.heap.size) => by omega), HD2.out.mod hM3 (fun i hi (e : i = w.heap.size) => (HN.out i hi).1 e), HV.out⟩
    | succ k1 =>
      have hin : i < n := by omega
      have c5 : decide ((i : Int) < (n : Int)) = true := decide_eq_true (by omega)
      have c5' : decide (i < n) = true := decide_eq_true (by omega)
      have q5 : IntKind.i64.wrap ((i : Int) + 1) = (i : Int) + 1 := IntWalk.i64_in _ (by omega)
      obtain ⟨k64, hk64⟩ : ∃ k64, k64 = i * 64 := ⟨_, rfl⟩
      have e64 : IntKind.i64.wrap ((i : Int) * 64) = (k64 : Int) := by rw [IntWalk.i64_in _ (by omega)]; omega
      have p1 : (0 ≤ (k64 : Int)) = True := eq_true (by omega)
      have p2 : ((k64 : Int) ≤ (s.size : Int)) = True := eq_true (by omega)
      have e65 : IntKind.i64.wrap (x + (i : Int)) = x + (i : Int) := IntWalk.i64_in _ (by omega)
      have HPg := Lib.hid (show over pz (s.extract k64 s.size) = pgOf s i by unfold pgOf; rw [hk64])
      clear hk64
      go_wp2_with (first | (refine wl_alloc30 rfl rfl ?_))
      go_region_held3 (fun w' => True)
        (trivial)
        (first | (refine step_copy (by rfl) wr.heap.size pz (s.extract k64 s.size) (heap_alloc_last wr _) (.tmp 41) (.tmp 45) (by rfl) (by rfl) (by rfl) ?_))
      have hbn : Below wr.heap.size wr (wr.alloc (Obj.cells (pa pz) 100 (0, 0))).drew := ((Below.refl _ _).alloc (Nat.le_refl _) _).drew
      have hP9 := row_at (wr.alloc (Obj.cells (pa pz) 100 (0, 0))).drew wr.heap.size pz (over pz (s.extract k64 s.size)) (heap_alloc_last wr _)
      have hM9 := mod_row (wr.alloc (Obj.cells (pa pz) 100 (0, 0))).drew wr.heap.size (pa (over pz (s.extract k64 s.size)))
      have hb9 : Below wr.heap.size wr ((wr.alloc (Obj.cells (pa pz) 100 (0, 0))).drew.setRow wr.heap.size (pa (over pz (s.extract k64 s.size)))) := hbn.trans (hM9.below hbn.size (fun i hi (e : i = wr.heap.size) => by omega))
      rw [HPg.out] at hP9 hb9
      rw [HPg.out]
      have HM9 := Lib.hid (HM.out.on_below hb9 (Nat.le_refl _))
      have HD9 := Lib.hid (HD.out.on hb9)
      have HK9 := blk_to HK hb9
      have HZ9 := blk_to HZ hb9
      have hws : w.heap.size ≤ wr.heap.size := HM.out.size
      have HP9 := Lib.hid hP9
      have hb99 := hb9.size
      generalize (wr.alloc (Obj.cells (pa pz) 100 (0, 0))).drew.setRow wr.heap.size (pa (pgOf s i)) = w9 at HM9 HD9 HK9 HZ9 HP9 hb99 ⊢
      clear hbn hP9 hM9 hb9 HM HD HK HZ
      go_wp2_with (first | (refine wl_load30 wr.heap.size (pgOf s i) HP9.out rfl _ rfl rfl ?_))
      refine (write_ok w9 R M v' { d with soft := d.soft ++ pgs s x i } (x + (i : Int)) (pgOf s i) HD9 hdn (by omega) (by show x + (i : Int) < d.size; omega) (by show d.budget ≠ 0; rw [hb.out]; decide) (by show -1 ≤ d.budget; rw [hb.out]; decide) (by show d.budget < _; rw [hb.out]; decide) (by show (d.soft ++ pgs s x i).length ≤ 9000; rw [List.length_append, pgs_length]; omega)).mono ?_
      rintro e w10 ⟨rfl, v10, hm, hd, hv⟩
      have hw9 : w.heap.size ≤ w9.heap.size := by omega
      have HM10 := Lib.hid (HM9.out.trans hm (fun j hj hf => (HV.out j hf).elim id (fun e => by omega)))
      have HD10 := Lib.hid (show IsD w10 R M v10 { d with soft := d.soft ++ pgs s x (i + 1) } from by
        have e : max (d.budget - 1) (-1) = d.budget := by rw [hb.out]; decide
        have z := hd
        rw [show ({ d with soft := d.soft ++ pgs s x i } : Dsk).budget = d.budget from rfl, e] at z
        have e2 : d.soft ++ pgs s x (i + 1) = d.soft ++ pgs s x i ++ [(x + (i : Int), pgOf s i)] := by simp [pgs]
        rw [e2]; exact z)
      have HV10 := Lib.hid (show ∀ j, Ft R M v10 j → Ft R M v j ∨ w.heap.size ≤ j from fun j hj => (ft_new hv j hj).elim (HV.out j) (fun e => .inr (by omega)))
      have hKl := Err.lt_of_block HK9.out
      have hZl := Err.lt_of_block HZ9.out
      have HN10 := Lib.hid (show ∀ j, Ft R M v10 j → j ≠ w.heap.size ∧ j ≠ K from fun j hj => (ft_new hv j hj).elim (HN.out j) (fun e => by omega))
      have HK10 := Lib.hid (hm.blk HK9.out (fun hf => (HN.out K hf).2 rfl))
      have HZ10 := Lib.hid (hm.blk HZ9.out (fun hf => (HN.out _ hf).1 rfl))
      clear hm hd hv
      go_wp2_with fail
      go_roundg k1
      case measure => exact Nat.lt_succ_self _
      case rel => exact ⟨i + 1, v10, by simp, by omega, HM10, HD10, HV10, HN10, HK10, HZ10⟩
end Go.Proofs.YtaodgnladjafoaaGreatDoor.Blb
