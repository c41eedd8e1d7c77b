/- Several texts in one: words that the proof of the law uses. -/
import Derived.Test.YtaodgnladjafoaaGreatDoorBlob1V
set_option linter.unusedVariables false
set_option linter.unusedSimpArgs false
namespace Go.Proofs.YtaodgnladjafoaaGreatDoor.Blb
open Go.Proofs.YtaodgnladjafoaaGreatDoor.AdM (sum)
open Go.RowKit Go.Proofs.YtaodgnladjafoaaGreatDoor.QStoreLasts Go.Proofs.YtaodgnladjafoaaGreatDoorW.PrintWords Go.Proofs.YtaodgnladjafoaaGreatDoorW.PrintLast Go.Proofs.YtaodgnladjafoaaGreatDoorW.PrintMore Go.Proofs.YtaodgnladjafoaaGreatDoor.CdM Go.Proofs.YtaodgnladjafoaaGreatDoor.Md Go.Proofs.YtaodgnladjafoaaGreatDoor.Dk
open Go.Extern.Stop (cell)
open Go.Proofs.YtaodgnladjafoaaGreatDoor.Err (Laid IsErr code_nil Chain at_some at_nil)
def bi (p : Pg) : List Int := p.1.map fun b => (b.toNat : Int)
theorem bi_length (p : Pg) : (bi p).length = 64 := by simp [bi, p.2]
def gs (d : Dsk) (x : Int) : Nat → List Int
  | 0 => []
  | n + 1 => gs d x n ++ bi (rd d (x + (n : Int)))
theorem gs_length (d : Dsk) (x : Int) : ∀ n, (gs d x n).length = n * 64
  | 0 => rfl
  | n + 1 => by rw [gs, List.length_append, gs_length d x n, bi_length]; omega
theorem info5 : (Tryz.prog.info? 5).map (fun i => (i.zero, i.size, i.bytes)) = some (some (.int .u8 0), 1, 1) := by kernel_rfl
theorem reads_pg (W : World) (g : Nat) (p : Pg) (h : W.heap[g]? = some (Obj.cells (pa p) 100 (0, 0))) : ReadsRow ((Kd.int .u8).K W) 1 W (some ⟨g, 0, none⟩) 64 (bi p) := by
  refine ⟨bi_length p, by decide, fun _ => ⟨_, rfl, fun j y hj => ⟨[.int .u8 y], rfl, ?_, fun i u hu => ?_⟩⟩⟩
  · rfl
  · rcases i with _ | i
    · simp at hu
      subst hu
      rw [Addr.add_mid, Nat.mul_one, Nat.add_zero]
      rw [Err.cell_of_blk h]
      have hj2 : j < 64 := by
        rcases Nat.lt_or_ge j 64 with e | e
        · exact e
        · rw [List.getElem?_eq_none (by rw [bi_length]; exact e)] at hj; cases hj
      simp only [bi, List.getElem?_map] at hj
      simp only [pa, cell, Nat.zero_add, List.getElem?_toArray, List.getElem?_map]
      cases hq : p.1[j]? with
      | none => rw [hq] at hj; cases hj
      | some b => rw [hq] at hj; simp at hj; simp [cell, hj]
    · simp at hu
theorem mayN0 {d : Dsk} {i : Int} (h : d.down = false) (h0 : 0 ≤ i) (h1 : i < d.size) : mayN d i = 0 := by
  unfold mayN; rw [h, if_neg (by decide), if_neg (by omega)]
set_option maxHeartbeats 8000000 in
set_option maxRecDepth 100000 in
theorem get_ok (w : World) (R M : Nat) (v : Value) (d : Dsk) (x y z : Int) (n : Nat) (t : ByteArray) (h : Hid (IsD w R M v d)) (hdn : Hid (d.down = false)) (hn : Hid (pagesV y = (n : Int))) (hn1 : 1 ≤ n) (hx0 : 0 ≤ x) (hx1 : x + (n : Int) ≤ d.size) (hsz : d.size ≤ 2048) (hl : d.soft.length ≤ 9000) (ht : Hid (strOfNums ((gs d x n).take y.toNat) = t)) :
    Calls Tryz.prog 43 #[.pointer (some ⟨R, 0, none⟩), .agg (refA x y z)] w fun ev w' => (sum t = z → ev = .returned (.tuple #[.string t, .nilIface])) ∧ (sum t ≠ z → ∃ T u, ev = .returned (.tuple #[.string ⟨#[]⟩, .iface T u]) ∧ IsErr w' (.iface T u) 12) ∧ Below w.heap.size w w' := by
  have hp := pagesV_le y
  rw [hn.out] at hp
  have hright : rightV x y d.size = true := by
    unfold rightV
    rw [hn.out, decide_eq_true (by omega), decide_eq_true hx0, decide_eq_true (by omega)]; rfl
  have HR := Lib.hid hright
  clear hright
  have hy : 1 ≤ y ∧ y ≤ (n : Int) * 64 := by
    have := hn.out
    unfold pagesV at this
    split at this
    · omega
    · split at this
      · omega
      · omega
  obtain ⟨yn, hyn⟩ : ∃ yn : Nat, y = (yn : Int) := ⟨y.toNat, by omega⟩
  subst hyn
  rw [Int.toNat_natCast] at ht
  go_enter Tryz.func43, Tryz.ntmps43
  go_wp2_with fail
  have hb1 : Below w.heap.size w (w.alloc (Obj.cells (refA x (yn : Int) z) 36 (0, 0))) := (Below.refl _ _).alloc (Nat.le_refl _) _
  have HK1 := Lib.hid (heap_alloc_last w (Obj.cells (refA x (yn : Int) z) 36 (0, 0)))
  obtain ⟨B, hB⟩ : ∃ B, w.heap.size = B := ⟨_, rfl⟩
  obtain ⟨w1, hw1⟩ : ∃ w1, w.alloc (Obj.cells (refA x (yn : Int) z) 36 (0, 0)) = w1 := ⟨_, rfl⟩
  rw [hw1] at HK1 hb1
  rw [hB] at HK1
  have HB1 := Lib.hid hb1
  rw [hw1]
  simp only [hB]
  clear hb1 hw1
  have HD1 := Lib.hid (h.out.on HB1.out)
  have hBl := Err.lt_of_block HK1.out
  have HBd := Lib.hid (show Below w1.heap.size w1 w1.drew from (Below.refl _ _).drew)
  have hS1 := ref_keep HK1.out HBd.out
  go_region_held3 (fun w' => w'.cell? ⟨B, 0, none⟩ = some (.int .i64 x) ∧ w'.cell? ⟨B, 1, none⟩ = some (.int .i64 (yn : Int)) ∧ w'.cell? ⟨B, 2, none⟩ = some (.int .u32 z))
    (first | with_reducible exact hS1 | with_reducible assumption)
    (first
      | (go_at_call 39
         refine (size_c _ R M v d (Lib.hid (HD1.out.on HBd.out))).mono ?_
         rintro e w5 ⟨rfl, hd5⟩
         have HB5 := Lib.hid (HBd.out.trans hd5)
         have hS5 := ref_keep HK1.out HB5.out
         clear hd5)
      | (go_at_call 62
         refine (right_c x (yn : Int) z d.size _ (by omega) (by omega)).mono ?_
         rintro e w6 ⟨rfl, hd6⟩
         rw [HR.out]
         have HB6 := Lib.hid (HB5.out.trans (hd6.mono HB5.out.size))
         have hS6 := ref_keep HK1.out HB6.out
         clear hd6))
  clear hS1 hS5 hS6 HBd HB5 HR
  obtain ⟨k0, k1, k2⟩ := ref_keep HK1.out HB6.out
  go_wp2_with fail
  refine (pages_c (yn : Int) (n : Int) hn _).mono ?_
  rintro e w7 ⟨rfl, hd⟩
  have HB7 := below_to HB6 (Nat.le_refl _) hd.below
  clear hd HB6 k0 k1 k2
  go_wp2_with fail
  have HN := Lib.hid (Kd.R_nil (Kd.int .u8) 5 w7 w1.heap.size (fun _ => True))
  have HBw := Lib.hid (HB1.out.trans (HB7.out.mono HB1.out.size))
  have HK7 := blk_to HK1 HB7.out
  have HD7 := Lib.hid (h.out.on HBw.out)
  have hN1 : w1.heap.size ≤ w7.heap.size := HB7.out.size
  go_loopg [6, 21] n (fun kq v0 v1 wr => ∃ (i : Nat), v1 = .int .i64 (i : Int) ∧ kq + i = n ∧ Hid (Kd.R (Kd.int .u8) 5 wr w1.heap.size (fun _ => True) v0 (gs d x i)) ∧ Hid (Below w1.heap.size w1 wr))
  case atStart => exact ⟨0, rfl, by omega, HN, HB7⟩
  case round =>
    clear HN HB7 HK7 HBw HD7 hN1
    obtain ⟨i, rfl, hk, HO, HB⟩ := hrel
    have HBw := Lib.hid (HB1.out.trans (HB.out.mono HB1.out.size))
    have HK := blk_to HK1 HB.out
    have HD := Lib.hid (h.out.on HBw.out)
    have hN1 : w1.heap.size ≤ wr.heap.size := HB.out.size
    obtain ⟨k0, k1, k2⟩ := ref_keep HK.out (Below.refl wr.heap.size wr)
    cases gk with
    | zero =>
      have hin : i = n := by omega
      have c5 : decide ((i : Int) < (n : Int)) = false := decide_eq_false (by omega)
      have c5' : decide (i < n) = false := decide_eq_false (by omega)
      have HO2 := Lib.hid (show Kd.R (Kd.int .u8) 5 wr w1.heap.size (fun _ => True) u6 (gs d x n) by rw [← hin]; exact HO.out)
      have hgl := gs_length d x n
      obtain ⟨g, cap, rfl, hg1, hg2, _⟩ := Kd.R_form HO2.out (by omega)
      obtain ⟨hl2, hc2, hC⟩ := Kd.R_reads' HO2.out
      obtain ⟨i0, hi0, _, hsz0, _⟩ := info_parts info5
      obtain ⟨hcut, hA, hC2⟩ := print_take_of (P := Tryz.prog) (Value.int .u8) (0 : Int) 129 5 .i64 Tryz.underlying129 hi0 hsz0 (some ⟨g, 0, none⟩) cap (gs d x n) (yn : Int) (by omega) (by omega) (by omega)
      rw [Int.toNat_natCast] at hcut hA hC2
      have hT := Kd.C_of_reads (h1 := fun _ => rfl) (hA wr (Kd.reads_of_C hC))
      have hlt : ((gs d x n).take yn).length = yn := by rw [List.length_take]; omega
      rw [hlt] at hT hcut
      have hcv := Kd.C_string (P := Tryz.prog) (src := 129) (dst := 9) (e := 5) (c := cap) Tryz.underlying129 Tryz.underlying5 Tryz.underlying9 hT
      rw [ht.out] at hcv
      clear hT hA hC2 hC hin hk HO HO2 hl2 hc2 hi0 hsz0 hlt hgl
      have hts : t.size = yn := by rw [← ht.out, strOfNums_size, List.length_take, gs_length]; omega
      go_wp2_with fail
      have HBd := Lib.hid (show Below wr.heap.size wr wr.drew from (Below.refl _ _).drew)
      have hS1 := (ref_keep HK.out HBd.out).2.2
      by_cases hz : sum t = z
      · have c6 : (sum t == z) = true := beq_iff_eq.2 hz
        have c6' : (sum t != z) = false := by rw [bne, c6]; rfl
        go_region_held3 (fun w' => w'.cell? ⟨B, 2, none⟩ = some (.int .u32 z))
          (first | with_reducible exact hS1 | with_reducible assumption)
          (first
            | (go_at_call 61
               refine (sum_c t _ (by omega)).mono ?_
               rintro e w5 ⟨rfl, hd5⟩
               have HB5 := Lib.hid (HBd.out.trans hd5)
               have hS5 := (ref_keep HK.out HB5.out).2.2
               clear hd5))
        have HB9 := below_to HBw (Nat.le_refl _) HB5.out
        go_wp2_with fail
        go_ret2
        refine ⟨fun _ => rfl, fun hn => absurd hz hn, HB9.out⟩
      · have c6 : (sum t == z) = false := beq_eq_false_iff_ne.2 hz
        have c6' : (sum t != z) = true := by rw [bne, c6]; rfl
        go_region_held3 (fun w' => w'.cell? ⟨B, 2, none⟩ = some (.int .u32 z))
          (first | with_reducible exact hS1 | with_reducible assumption)
          (first
            | (go_at_call 61
               refine (sum_c t _ (by omega)).mono ?_
               rintro e w5 ⟨rfl, hd5⟩
               have HB5 := Lib.hid (HBd.out.trans hd5)
               have hS5 := (ref_keep HK.out HB5.out).2.2
               clear hd5))
        have HB9 := below_to HBw (Nat.le_refl _) HB5.out
        go_wp2_with fail
        refine (at_err _ _ 12 _).mono ?_
        rintro e w7 ⟨T, u, rfl, he, hd⟩
        have HE := Lib.hid he
        have HB10 := below_to HB9 (Nat.le_refl _) hd
        clear he hd
        go_wp2_with fail
        go_ret2
        exact ⟨fun hn => absurd hn hz, fun _ => ⟨T, u, rfl, HE.out⟩, HB10.out⟩
    | succ k1 =>
      have hin : i < n := by omega
      have c5 : decide ((i : Int) < (n : Int)) = true := decide_eq_true (by omega)
      have c5' : decide (i < n) = true := decide_eq_true (by omega)
      have q5 : IntKind.i64.wrap ((i : Int) + 1) = (i : Int) + 1 := IntWalk.i64_in _ (by omega)
      have e65 : IntKind.i64.wrap (x + (i : Int)) = x + (i : Int) := IntWalk.i64_in _ (by omega)
      obtain ⟨P, hP⟩ : ∃ P, rd d (x + (i : Int)) = P := ⟨_, rfl⟩
      have HP := Lib.hid hP
      clear hP
      go_wp2_with fail
      refine (read_ok wr R M v d (x + (i : Int)) HD (mayN0 hdn.out (by omega) (by omega)) hl).mono ?_
      rintro e w10 ⟨rfl, hd10⟩
      rw [HP.out]
      have HO10 := Lib.hid (Kd.R_below HO.out hd10)
      have HB10 := below_to HB (Nat.le_refl _) hd10
      have hN10 : w1.heap.size ≤ w10.heap.size := HB10.out.size
      clear hd10 HO HB
      have hgl := gs_length d x i
      go_wp2_with (first
        | (refine wl_alloc30 rfl rfl ?_)
        | (refine wl_store30n pz P rfl _ _ rfl rfl rfl ?_)
        | (at_builtin
           have hb11 : Below w10.heap.size w10 (w10.alloc (Obj.cells (pa P) 100 (0, 0))) := (Below.refl _ _).alloc (Nat.le_refl _) _
           refine Kd.R_append_rows (Kd.int .u8) (w0 := w1) w1.heap.size rfl (.tmp 37) (.tmp 38) 129 5 (.int .u8 0) 1 rfl Tryz.underlying129 info5 rfl (by decide) (by decide) u6 (gs d x i) (bi P) _ _ _ (fun _ => True) (fun _ => False) rfl rfl (Kd.R_below HO10.out hb11) (reads_pg _ _ P (heap_alloc_last w10 _)) (fun _ _ h => h) (fun _ h => h.elim) (fun _ _ => trivial) (HB10.out.trans (hb11.mono hN10)) (Nat.le_trans hN10 hb11.size) ?aL ?_
           (case aL => omega)
           intro v2 w12 ho12 hb12 hg12 hn12
           have HO12 := Lib.hid (show Kd.R (Kd.int .u8) 5 w12 w1.heap.size (fun _ => True) v2 (gs d x (i + 1)) by rw [gs, HP.out]; exact ho12)
           have HB12 := Lib.hid hb12
           clear ho12 hb12 hg12 hn12 hb11))
      go_roundg k1
      case measure => exact Nat.lt_succ_self _
      case rel => exact ⟨i + 1, by simp, by omega, HO12, HB12⟩
theorem rd_pgs (d : Dsk) (s : ByteArray) (x j : Int) : ∀ n : Nat, rd { d with soft := d.soft ++ pgs s x n } j = if x ≤ j ∧ j < x + (n : Int) then pgOf s (j - x).toNat else rd d j
  | 0 => by
    rw [if_neg (by omega)]
    show rd { d with soft := d.soft ++ [] } j = _
    rw [List.append_nil]
  | n + 1 => by
    have e : rd { d with soft := d.soft ++ pgs s x (n + 1) } j = if x + (n : Int) = j then pgOf s n else rd { d with soft := d.soft ++ pgs s x n } j := by
      rw [show pgs s x (n + 1) = pgs s x n ++ [(x + (n : Int), pgOf s n)] from rfl]
      unfold Go.Proofs.YtaodgnladjafoaaGreatDoor.Dk.rd
      simp only [List.foldl_append, List.foldl_cons, List.foldl_nil]
    rw [e, rd_pgs d s x j n]
    by_cases h : x + (n : Int) = j
    · rw [if_pos h, if_pos (by omega), show (j - x).toNat = n by omega]
    · rw [if_neg h]
      by_cases h2 : x ≤ j ∧ j < x + (n : Int)
      · rw [if_pos h2, if_pos (by omega)]
      · rw [if_neg h2, if_neg (by omega)]
theorem sl_length (s : ByteArray) : s.data.toList.length = s.size := by simp
theorem over_get (q : Pg) (t : ByteArray) (j : Nat) : (over q t).1[j]? = if j < t.size ∧ j < 64 then t.data.toList[j]? else q.1[j]? := by
  have hq := q.2
  have ht := sl_length t
  unfold over
  show (t.data.toList.take 64 ++ q.1.drop (min t.size 64))[j]? = _
  rw [List.getElem?_append, List.length_take, ht, List.getElem?_take, List.getElem?_drop]
  by_cases h : j < t.size ∧ j < 64
  · rw [if_pos h, if_pos (by omega), if_pos h.2]
  · rw [if_neg h, if_neg (by omega)]
    by_cases h2 : j < 64
    · rw [show min t.size 64 + (j - min 64 t.size) = j by omega]
    · rw [List.getElem?_eq_none (by omega), List.getElem?_eq_none (by omega)]
theorem pg_get (s : ByteArray) (i j : Nat) (hj : j < 64) : (pgOf s i).1[j]? = some (s.data.toList.getD (i * 64 + j) 0) := by
  have hs := sl_length s
  unfold pgOf
  rw [over_get]
  have he : (s.extract (i * 64) s.size).size = s.size - i * 64 := by rw [ByteArray.size_extract]; omega
  rw [he]
  by_cases h : j < s.size - i * 64
  · rw [if_pos ⟨h, hj⟩]
    have : (s.extract (i * 64) s.size).data.toList = s.data.toList.drop (i * 64) := by
      rw [ByteArray.data_extract, Array.toList_extract, List.extract_eq_take_drop, List.take_of_length_le]
      rw [List.length_drop, hs]
      exact Nat.le_refl _
    rw [this, List.getElem?_drop, List.getD_eq_getElem?_getD, List.getElem?_eq_getElem (by omega)]
    rfl
  · rw [if_neg (by omega), List.getD_eq_getElem?_getD, List.getElem?_eq_none (l := s.data.toList) (by omega)]
    show (List.replicate 64 (0 : UInt8))[j]? = _
    rw [List.getElem?_replicate, if_pos hj]
    rfl
theorem gs_get (d : Dsk) (x : Int) : ∀ (n q : Nat), q < n * 64 → (gs d x n)[q]? = some ((((rd d (x + ((q / 64 : Nat) : Int))).1.getD (q % 64) 0).toNat : Nat) : Int)
  | 0, q, h => by omega
  | n + 1, q, h => by
    rw [gs, List.getElem?_append, gs_length]
    by_cases h2 : q < n * 64
    · rw [if_pos h2, gs_get d x n q h2]
    · rw [if_neg h2, show q / 64 = n by omega, show q % 64 = q - n * 64 by omega]
      have h3 := (rd d (x + (n : Int))).2
      unfold bi
      rw [List.getElem?_map, List.getElem?_eq_getElem (by omega), List.getD_eq_getElem?_getD, List.getElem?_eq_getElem (by omega)]
      rfl
theorem gs_text (d : Dsk) (x : Int) (n : Nat) (s : ByteArray) (hn : s.size ≤ n * 64) (h : ∀ i : Nat, i < n → rd d (x + (i : Int)) = pgOf s i) : strOfNums ((gs d x n).take s.size) = s := by
  have e : (gs d x n).take s.size = s.data.toList.map fun b => (b.toNat : Int) := by
    apply List.ext_getElem?
    intro q
    have hs := sl_length s
    rw [List.getElem?_take, List.getElem?_map]
    by_cases hq : q < s.size
    · rw [if_pos hq, gs_get d x n q (by omega), h _ (by omega), List.getD_eq_getElem?_getD, pg_get _ _ _ (by omega), show q / 64 * 64 + q % 64 = q by omega, List.getElem?_eq_getElem (by omega), List.getD_eq_getElem?_getD, List.getElem?_eq_getElem (by omega)]
      rfl
    · rw [if_neg hq, List.getElem?_eq_none (by omega)]
      rfl
  rw [e]
  unfold strOfNums
  apply ByteArray.ext
  apply Array.toList_inj.1
  have e2 : ((fun n : Int => UInt8.ofNat n.toNat) ∘ fun b : UInt8 => ((b.toNat : Nat) : Int)) = id := by funext b; simp
  simp [e2]
section
variable {ops : Array Oper} {rest : List Oper} {o : Oper} {a : Go.Act} {w : World} {Q : Exit → Go.Act → World → Prop}
end
theorem pages_of (s : ByteArray) (h1 : 1 ≤ s.size) (h2 : s.size ≤ 16384) : pagesV (s.size : Int) = (((s.size + 63) / 64 : Nat) : Int) := by
  unfold pagesV
  rw [if_neg (by omega), if_neg (by omega)]
  omega
end Go.Proofs.YtaodgnladjafoaaGreatDoor.Blb
