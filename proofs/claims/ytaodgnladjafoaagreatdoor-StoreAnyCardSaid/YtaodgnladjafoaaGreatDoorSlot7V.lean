/- Words that the proof uses. -/
import Derived.Test.YtaodgnladjafoaaGreatDoorSlot6V
set_option linter.unusedVariables false
set_option linter.unusedSimpArgs false
namespace Go.Proofs.YtaodgnladjafoaaGreatDoor.Slt
open Go.Proofs.YtaodgnladjafoaaGreatDoor.AdM (sum bl bl_length A B A_one A_lt B_lt)
open Go.RowKit Go.Proofs.YtaodgnladjafoaaGreatDoor.QStoreLasts Go.Proofs.YtaodgnladjafoaaGreatDoorW.PrintWords Go.Proofs.YtaodgnladjafoaaGreatDoorW.PrintLast Go.Proofs.YtaodgnladjafoaaGreatDoorW.PrintMore Go.Proofs.YtaodgnladjafoaaGreatDoor.CdM Go.Proofs.YtaodgnladjafoaaGreatDoor.Md Go.Proofs.YtaodgnladjafoaaGreatDoor.Dk Go.Proofs.YtaodgnladjafoaaGreatDoor.Blb
open Go.Extern.Stop (cell)
open Go.Proofs.YtaodgnladjafoaaGreatDoor.Err (Laid IsErr code_nil Chain at_some at_nil)
theorem bit_ones (n : Nat) : bit 18446744073709551615 n = true := by
  have key : ∀ k, k < 64 → (18446744073709551615 / 2 ^ k % 2 == 1) = true := by decide
  exact key _ (Nat.mod_lt _ (by omega))
theorem stl_ones : ∀ (l : List (Int × Pg)) (F : Int → Pg) (n : Nat), stl 18446744073709551615 F l n = fun j => l.foldl (fun out x => if x.1 = j then x.2 else out) (F j)
  | [], F, n => rfl
  | x :: l, F, n => by
    rw [stl, bit_ones, if_pos rfl, stl_ones l]
    funext j
    show List.foldl _ (upd F x.1 x.2 j) l = List.foldl _ (if x.1 = j then x.2 else F j) l
    congr 1
    unfold upd
    by_cases e : x.1 = j
    · rw [if_pos e, if_pos e.symm]
    · rw [if_neg e, if_neg (fun h => e h.symm)]
def flushed (d : Dsk) : Dsk := { d with firm := rd d, soft := [] }
theorem flushed_eq (d : Dsk) : ({ d with firm := stl 18446744073709551615 d.firm d.soft 0, soft := [] } : Dsk) = flushed d := by
  unfold flushed
  rw [stl_ones]
  rfl
def switched (d : Dsk) (s : Sl) : Dsk := { d with firm := upd (rd d) (s.g % 2) s.lay, soft := [], budget := max (d.budget - 1) (-1) }
theorem switched_eq (d : Dsk) (s : Sl) : flushed { flushed d with soft := (flushed d).soft ++ [(s.g % 2, s.lay)], budget := max ((flushed d).budget - 1) (-1) } = switched d s := by
  have e : rd { flushed d with soft := (flushed d).soft ++ [(s.g % 2, s.lay)], budget := max ((flushed d).budget - 1) (-1) } = upd (rd d) (s.g % 2) s.lay := by
    funext j
    rw [rd_snoc]
    unfold upd
    by_cases h : s.g % 2 = j
    · rw [if_pos h, if_pos h.symm]
    · rw [if_neg h, if_neg (fun g => h g.symm)]
      rfl
  unfold flushed at e ⊢
  unfold switched
  rw [e]
set_option maxHeartbeats 8000000 in
set_option maxRecDepth 100000 in
theorem switch_ok (w : World) (R M : Nat) (v : Value) (d : Dsk) (s : Sl) (h : Hid (IsD w R M v d)) (hr : s.Rt) (hdn : Hid (d.down = false)) (hsz : 2 ≤ d.size) (hb : d.budget ≠ 0) (hb0 : -1 ≤ d.budget) (hb1 : d.budget < 9223372036854775808) (hl : d.soft.length ≤ 9000) :
    Calls Tryz.prog 41 #[.pointer (some ⟨R, 0, none⟩), .agg s.a] w fun ev w' => ev = .returned .nilIface ∧ Mod (Ft R M v) w w' ∧ IsD w' R M (.slice none 0 0) (switched d s) := by
  have HRt := Lib.hid hr
  have hg0 : 0 ≤ s.g := by have := hr.g0; omega
  have hg1 : s.g < 4294967296 := hr.g1
  clear hr
  go_enter Tryz.func41, Tryz.ntmps41
  go_wp2_with fail
  have hb1' : Below w.heap.size w (w.alloc (Obj.cells s.a 62 (0, 0))) := (Below.refl _ _).alloc (Nat.le_refl _) _
  refine (lay_ok s.g s.x s.y s.z _ HRt.out).mono ?_
  rintro e w2 ⟨rfl, hd⟩
  have HB2 := Lib.hid (hb1'.trans (hd.mono hb1'.size))
  have HK2 := blk_to (Lib.hid (heap_alloc_last w (Obj.cells s.a 62 (0, 0)))) hd
  obtain ⟨K, hK⟩ : ∃ K, w.heap.size = K := ⟨_, rfl⟩
  rw [hK] at HK2
  simp only [hK]
  have hRK : ∀ i, Ft R M v i → i < K := by rw [← hK]; exact h.out.ft_lt
  clear hd hb1'
  obtain ⟨P, hP⟩ : ∃ P, layP s.g s.x s.y s.z = P := ⟨_, rfl⟩
  have HP := Lib.hid hP
  rw [hP]
  clear hP
  go_wp2_with (first
    | (refine wl_alloc30 rfl rfl ?_)
    | (refine wl_store30n pz P rfl _ _ rfl rfl rfl ?_))
  have hb3 : Below w2.heap.size w2 (w2.alloc (Obj.cells (pa P) 100 (0, 0))) := (Below.refl _ _).alloc (Nat.le_refl _) _
  have HB3 := Lib.hid (HB2.out.trans (hb3.mono HB2.out.size))
  have HK3 := blk_to HK2 hb3
  have HP3 := Lib.hid (heap_alloc_last w2 (Obj.cells (pa P) 100 (0, 0)))
  obtain ⟨G, hG⟩ : ∃ G, w2.heap.size = G := ⟨_, rfl⟩
  have hKG : K < G := by rw [← hG]; exact Err.lt_of_block HK2.out
  rw [hG] at HP3
  simp only [hG]
  generalize (w2.alloc (Obj.cells (pa P) 100 (0, 0))) = w3 at *
  clear hb3 HB2 HK2
  have HD3 := Lib.hid (h.out.on HB3.out)
  refine (flush_ok w3 R M v d HD3 (mayN_zero hdn.out (by omega) (by omega)) hl).mono ?_
  rintro e w4 ⟨rfl, hm, hd⟩
  rw [flushed_eq] at hd
  have HM4 := Lib.hid ((Mod.of_below (S := Ft R M v) HB3.out (Nat.le_refl _)).tr hm)
  have HD4 := Lib.hid hd
  have HK4 := Lib.hid (hm.blk HK3.out (fun hf => by have := hRK _ hf; omega))
  have HP4 := Lib.hid (hm.blk HP3.out (fun hf => by have := hRK _ hf; omega))
  clear hm hd HB3 HK3 HP3 HD3
  have k0 : w4.cell? ⟨K, 0, none⟩ = some (.int .u32 s.g) := Err.cell_of_blk HK4.out 0
  go_wp2_with (first
    | (refine wl_load30 G P HP4.out rfl _ rfl rfl ?_))
  refine (write_ok w4 R M (.slice none 0 0) (flushed d) (s.g % 2) P HD4 hdn (by omega) (by show s.g % 2 < d.size; omega) hb hb0 hb1 (by show (0 : Nat) ≤ 9000; omega)).mono ?_
  rintro e w5 ⟨rfl, v5, hm, hd, hv⟩
  have hnil : ∀ i, Ft R M (.slice none 0 0) i → Ft R M v i := by
    rintro i (rfl | rfl | e)
    · exact .inl rfl
    · exact .inr (.inl rfl)
    · simp [Value.ownBlock] at e
  have HV5 := Lib.hid (show ∀ i, i < w.heap.size → Ft R M v5 i → Ft R M v i from by
    rintro i hi (rfl | rfl | e)
    · exact .inl rfl
    · exact .inr (.inl rfl)
    · rcases hv with g | ⟨b, g, hb⟩
      · rw [g] at e; simp [Value.ownBlock] at e
      · rw [g] at e; cases e; have := HM4.out.size; omega)
  have HM5 := Lib.hid (HM4.out.trans hm (fun i hi hf => hnil i hf))
  have HD5 := Lib.hid hd
  clear hm hd hv HK4 HP4 k0 HM4 HD4 hnil
  go_wp2_with fail
  refine (flush_ok w5 R M v5 _ HD5 (mayN_zero hdn.out (by omega) (by show (0 : Int) < d.size; omega)) (by show (([] : List (Int × Pg)) ++ [(s.g % 2, P)]).length ≤ 9000; simp)).mono ?_
  rintro e w6 ⟨rfl, hm, hd⟩
  rw [flushed_eq] at hd
  have HM6 := Lib.hid (HM5.out.trans hm HV5.out)
  have HD6 := Lib.hid (show IsD w6 R M (.slice none 0 0) (switched d s) from by rw [← switched_eq, show s.lay = P from HP.out]; exact hd)
  clear hm hd HM5 HD5
  go_wp2_with fail
  go_ret
  exact ⟨rfl, HM6.out, HD6.out⟩
end Go.Proofs.YtaodgnladjafoaaGreatDoor.Slt
