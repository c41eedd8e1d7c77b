/- Several texts in one: words that the proof of the law uses. -/
import Derived.Test.YtaodgnladjafoaaGreatDoorSlot45V
set_option linter.unusedVariables false
set_option linter.unusedSimpArgs false
namespace Go.Proofs.YtaodgnladjafoaaGreatDoor.Slt
open Go.Proofs.YtaodgnladjafoaaGreatDoor.AdM (sum bl bl_length A B A_one A_lt B_lt)
open Go.RowKit Go.Proofs.YtaodgnladjafoaaGreatDoor.QStoreLasts Go.Proofs.YtaodgnladjafoaaGreatDoorW.PrintWords Go.Proofs.YtaodgnladjafoaaGreatDoorW.PrintLast Go.Proofs.YtaodgnladjafoaaGreatDoorW.PrintMore Go.Proofs.YtaodgnladjafoaaGreatDoor.CdM Go.Proofs.YtaodgnladjafoaaGreatDoor.Md Go.Proofs.YtaodgnladjafoaaGreatDoor.Dk Go.Proofs.YtaodgnladjafoaaGreatDoor.Blb
open Go.Extern.Stop (cell)
open Go.Proofs.YtaodgnladjafoaaGreatDoor.Err (Laid IsErr code_nil Chain at_some at_nil)
structure Sl where
 g : Int
 x : Int
 y : Int
 z : Int
def Sl.zero : Sl := ⟨0, 0, 0, 0⟩
abbrev Sl.a (s : Sl) : Array Value := slA s.g s.x s.y s.z
def Sl.Rt (s : Sl) : Prop := Slt.Rt s.g s.x s.y s.z
def Sl.lay (s : Sl) : Pg := layP s.g s.x s.y s.z
theorem Sl.inj {s t : Sl} (hs : s.Rt) (ht : t.Rt) (e : s.lay = t.lay) : s = t := by
 obtain ⟨h1, h2, h3, h4⟩ := lay_inj hs ht e
 cases s; cases t
 simp only at h1 h2 h3 h4
 subst h1 h2 h3 h4
 rfl
open Classical in
noncomputable def slotOf (p : Pg) : Sl := if h : ∃ s : Sl, s.Rt ∧ s.lay = p then Classical.choose h else Sl.zero
theorem slotOf_lay {s : Sl} {p : Pg} (h : s.Rt) (e : s.lay = p) : slotOf p = s := by
 have hx : ∃ s : Sl, s.Rt ∧ s.lay = p := ⟨s, h, e⟩
 unfold slotOf
 rw [dif_pos hx]
 have h2 := Classical.choose_spec hx
 exact Sl.inj h2.1 h (h2.2.trans e.symm)
theorem slotOf_none {p : Pg} (h : ∀ s : Sl, s.Rt → s.lay ≠ p) : slotOf p = Sl.zero := by
 unfold slotOf
 rw [dif_neg]
 rintro ⟨s, h1, h2⟩
 exact h s h1 h2
theorem slotOf_sum {p : Pg} (h : numV (sub p 60 4) ≠ sum (sub p 0 60)) : slotOf p = Sl.zero :=
 slotOf_none fun s hs e => h (by rw [← e]; exact lay_sum _ _ _ _)
noncomputable def slotBad (p : Pg) : Int := if 0 < (slotOf p).g then 0 else if numV (sub p 60 4) = sum (sub p 0 60) then 13 else 12
theorem slotOf_nonneg (p : Pg) : 0 ≤ (slotOf p).g := by
 by_cases h : ∃ s : Sl, s.Rt ∧ s.lay = p
 ·obtain ⟨s, h1, h2⟩ := h
  rw [slotOf_lay h1 h2]
  have := h1.g0; omega
 ·rw [slotOf_none (fun s h1 h2 => h ⟨s, h1, h2⟩)]
  exact Int.le_refl _
theorem read_c (p : Pg) (w : World) :
  Calls Tryz.prog 51 #[pv p] w fun ev w' => (∃ e, ev = .returned (.tuple #[.agg (slotOf p).a, e]) ∧ (0 < (slotOf p).g → e = .nilIface) ∧ (¬ 0 < (slotOf p).g → ∃ T u, e = .iface T u ∧ IsErr w' e (slotBad p))) ∧ Below w.heap.size w w' := by
 by_cases heq : numV (sub p 60 4) = sum (sub p 0 60)
 ·refine (read_eq p w (Lib.hid heq)).mono ?_
  rintro e w' ⟨⟨g, x, y, z, e, rfl, hs⟩, hb⟩
  refine ⟨⟨e, ?_⟩, hb⟩
  rcases hs with ⟨h1, h2, rfl⟩ | ⟨⟨h1, _⟩, _⟩ | ⟨⟨_, h2, T, u, rfl, h3⟩, rfl, rfl, rfl, rfl⟩
  ·rw [slotOf_lay (s := ⟨g, x, y, z⟩) h1 h2]
   exact ⟨rfl, fun _ => rfl, fun h => absurd h1.g0 h⟩
  ·exact absurd heq h1
  ·have e0 := slotOf_none (p := p) (fun s hs e => h2 _ _ _ _ hs e)
   have hb13 : slotBad p = 13 := by unfold slotBad; rw [e0, if_neg (by show ¬ (0 : Int) < 0; omega), if_pos heq]
   rw [hb13, e0]
   exact ⟨rfl, fun h => absurd h (by show ¬ (0 : Int) < 0; omega), fun _ => ⟨T, u, rfl, h3⟩⟩
 ·refine (read_sum p w (Lib.hid heq)).mono ?_
  rintro e w' ⟨⟨T, u, rfl, h3⟩, hb⟩
  have e0 := slotOf_sum heq
  have hb12 : slotBad p = 12 := by unfold slotBad; rw [e0, if_neg (by show ¬ (0 : Int) < 0; omega), if_neg heq]
  rw [hb12, e0]
  exact ⟨⟨_, rfl, fun h => absurd h (by show ¬ (0 : Int) < 0; omega), fun _ => ⟨T, u, rfl, h3⟩⟩, hb⟩
def pick (a b : Sl) : Sl := if a.g < b.g then b else a
noncomputable def bestOf (d : Dsk) : Nat → Sl
 | 0 => Sl.zero
 | n + 1 => pick (bestOf d n) (slotOf (rd d (n : Int)))
theorem pick_nonneg {a b : Sl} (ha : 0 ≤ a.g) (hb : 0 ≤ b.g) : 0 ≤ (pick a b).g := by
 unfold pick; split
 ·exact hb
 ·exact ha
theorem bestOf_nonneg (d : Dsk) : ∀ n, 0 ≤ (bestOf d n).g
 | 0 => Int.le_refl _
 | n + 1 => pick_nonneg (bestOf_nonneg d n) (slotOf_nonneg _)
theorem best_results (tmps : Array Value) (W : World) (b : Nat) (g x y z : Int) (e : Value) (h4 : tmps.getD 2 undef = .pointer (some ⟨b, 0, none⟩)) (h5 : tmps.getD 3 undef = e) (h : W.heap[b]? = some (Obj.cells (slA g x y z) 62 (0, 0))) : (results Tryz.f25 tmps).run Tryz.prog W = .ok (.tuple #[.agg (slA g x y z), e]) W := by
 have hl : (loadVar 62 ⟨b, 0, none⟩).run Tryz.prog W = .ok (.agg (slA g x y z)) W := run_loadVar_row W b 62 62 (slA g x y z) (0, 0) _ h Tryz.underlying62 rfl (by kernel_rfl)
 have h4' : tmps[2]?.getD undef = .pointer (some ⟨b, 0, none⟩) := by simpa using h4
 have h5' : tmps[3]?.getD undef = e := by simpa using h5
 simp [results, Tryz.results25, asAddr, h4', h5', hl]
def BestAt (d : Dsk) (w : World) (ev : Ending) (w' : World) : Prop := Below w.heap.size w w' ∧
   (mayN d 0 = 0 → mayN d 1 = 0 → 0 < (bestOf d 2).g → ev = .returned (.tuple #[.agg (bestOf d 2).a, .nilIface])) ∧
   (mayN d 0 = 0 → mayN d 1 = 0 → ¬ 0 < (bestOf d 2).g → ∃ T u, ev = .returned (.tuple #[.agg Sl.zero.a, .iface T u]) ∧ IsErr w' (.iface T u) 3) ∧
   (∀ j : Nat, j < 2 → (∀ i : Nat, i < j → mayN d (i : Int) = 0) → mayN d (j : Int) ≠ 0 → ∃ T u, ev = .returned (.tuple #[.agg Sl.zero.a, .iface T u]) ∧ IsErr w' (.iface T u) (mayN d (j : Int)))
set_option maxHeartbeats 8000000 in
set_option maxRecDepth 100000 in
theorem best_c (w : World) (R M : Nat) (v : Value) (d : Dsk) (h : Hid (IsD w R M v d)) (hl : d.soft.length ≤ 9000) :
  Calls Tryz.prog 25 #[.pointer (some ⟨R, 0, none⟩)] w fun ev w' => BestAt d w ev w' := by
 go_enter Tryz.func25, Tryz.ntmps25
 go_wp2_with (first | (refine wl_allocS rfl rfl ?_))
 obtain ⟨HRs, HBs, HB1⟩ := alloc2 w (Obj.cells (slA 0 0 0 0) 62 (0, 0)) (Obj.cells (slA 0 0 0 0) 62 (0, 0))
 obtain ⟨B, hB⟩ : ∃ B, w.heap.size = B := ⟨_, rfl⟩
 rw [hB] at HRs HBs HB1
 (try rw [alloc_size])
 simp only [hB]
 generalize ((w.alloc (Obj.cells (slA 0 0 0 0) 62 (0, 0))).alloc (Obj.cells (slA 0 0 0 0) 62 (0, 0))) = w1 at *
 go_loopg [10] 2 (fun kq v0 wr => ∃ (i : Nat), v0 = .int .i64 (i : Int) ∧ kq + i = 2 ∧ Hid (Below B w wr) ∧ Hid (wr.heap[B]? = some (Obj.cells (slA 0 0 0 0) 62 (0, 0))) ∧ Hid (wr.heap[B + 1]? = some (Obj.cells (bestOf d i).a 62 (0, 0))) ∧ Hid (∀ j : Nat, j < i → mayN d (j : Int) = 0))
 case atStart => exact ⟨0, rfl, rfl, HB1, HRs, HBs, Lib.hid (fun j hj => by omega)⟩
 case round =>
  clear HRs HBs HB1
  obtain ⟨i, rfl, hk, HB, HR, HK, HN⟩ := hrel
  have HD := Lib.hid (h.out.on (by rw [hB]; exact HB.out))
  have hBK : B + 1 < wr.heap.size := Err.lt_of_block HK.out
  cases gk with
  | zero =>
   have hi : i = 2 := by omega
   subst hi
   have m0 := HN.out 0 (by omega)
   have m1 := HN.out 1 (by omega)
   have HM0 := Lib.hid m0
   have HM1 := Lib.hid m1
   clear m0 m1
   obtain ⟨S, hS⟩ : ∃ S, bestOf d 2 = S := ⟨_, rfl⟩
   rw [hS] at HK
   have HS := Lib.hid hS
   have hn := bestOf_nonneg d 2
   rw [hS] at hn
   clear hS
   obtain ⟨k0, k1, k2, k3⟩ := sl_keep HK.out (Below.refl wr.heap.size wr)
   by_cases hg : 0 < S.g
   ·have c1 : (S.g == 0) = false := beq_eq_false_iff_ne.2 (by omega)
    go_wp2_with (first
     | (refine wl_loadS (B + 1) S.g S.x S.y S.z HK.out rfl _ rfl rfl ?_)
     | (refine wl_storeS B 0 0 0 0 S.g S.x S.y S.z HR.out rfl _ _ rfl rfl rfl ?_))
    (try simp only [Exit.inBlock, Exit.then])
    refine bodyPost_ret (v := .tuple #[.agg S.a, .nilIface]) ?_ rfl ?_
    ·exact best_results _ _ B S.g S.x S.y S.z .nilIface rfl rfl (srow_at _ _ 0 0 0 0 _ _ _ _ HR.out)
    have hm := mod_row wr B S.a
    refine ⟨?_, fun _ _ _ => by rw [HS.out], fun _ _ hn => absurd hg (by rw [HS.out] at hn; exact hn), ?_⟩
    ·rw [hB]; exact HB.out.trans (hm.below (by omega) (fun i hi (e : i = B) => by omega))
    ·intro j hj _ hne
     rcases j with _ | _ | j
     ·exact absurd HM0.out hne
     ·exact absurd HM1.out hne
     ·omega
   ·have hg0 : S.g = 0 := by omega
    have c1 : (S.g == 0) = true := beq_iff_eq.2 hg0
    clear hg0
    go_wp2_with fail
    refine (at_err _ _ 3 _).mono ?_
    rintro e w3 ⟨T, u, rfl, he, hd⟩
    have HE := Lib.hid he
    have HR3 := blk_to HR hd
    have HB3 := below_to HB (by omega) hd
    clear he hd
    go_wp2_with (first | (refine wl_storeS B 0 0 0 0 0 0 0 0 HR3.out rfl _ _ rfl rfl rfl ?_))
    (try simp only [Exit.inBlock, Exit.then])
    refine bodyPost_ret (v := .tuple #[.agg (slA 0 0 0 0), .iface T u]) ?_ rfl ?_
    ·exact best_results _ _ B 0 0 0 0 (.iface T u) rfl rfl (srow_at _ _ 0 0 0 0 _ _ _ _ HR3.out)
    have hm := mod_row w3 B (slA 0 0 0 0)
    have hB3 : B < w3.heap.size := Err.lt_of_block HR3.out
    refine ⟨?_, fun _ _ hp => absurd hp (by rw [HS.out]; omega), fun _ _ hn => ⟨T, u, rfl, isErr_mod HE.out hm (fun b cs hb (hf : b = B) => by rw [hf, HR3.out] at hb; simp at hb)⟩, ?_⟩
    ·rw [hB]; exact HB3.out.trans (hm.below (by omega) (fun i hi (e : i = B) => by omega))
    ·intro j hj _ hne
     rcases j with _ | _ | j
     ·exact absurd HM0.out hne
     ·exact absurd HM1.out hne
     ·omega
  | succ k1 =>
   have c1 : decide ((i : Int) < 2) = true := decide_eq_true (by omega)
   have c1' : decide (i < 2) = true := decide_eq_true (by omega)
   have q5 : IntKind.i64.wrap ((i : Int) + 1) = (i : Int) + 1 := IntWalk.i64_in _ (by omega)
   have hi2 : i < 2 := by omega
   by_cases hm : mayN d (i : Int) = 0
   ·have HMi := Lib.hid hm
    obtain ⟨P, hP⟩ : ∃ P, rd d (i : Int) = P := ⟨_, rfl⟩
    have HP := Lib.hid hP
    clear hP hm
    go_wp2_with fail
    refine (read_ok wr R M v d (i : Int) HD HMi.out hl).mono ?_
    rintro e w2 ⟨rfl, hd⟩
    rw [HP.out]
    have HR2 := blk_to HR hd
    have HK2 := blk_to HK hd
    have HB2 := below_to HB (by omega) hd
    clear hd HR HK HB HD
    go_wp2_with (first
     | (refine wl_alloc30 rfl rfl ?_)
     | (refine wl_store30n pz P rfl _ _ rfl rfl rfl ?_)
     | (refine wl_load30 w2.heap.size P (heap_alloc_last _ _) rfl _ rfl rfl ?_))
    have hb3 : Below w2.heap.size w2 (w2.alloc (Obj.cells (pa P) 100 (0, 0))) := (Below.refl _ _).alloc (Nat.le_refl _) _
    have hB2 : B + 1 < w2.heap.size := Err.lt_of_block HK2.out
    have HR3 := blk_to HR2 hb3
    have HK3 := blk_to HK2 hb3
    have HB3 := below_to HB2 (by omega) hb3
    generalize (w2.alloc (Obj.cells (pa P) 100 (0, 0))) = w3 at *
    clear hb3 HR2 HK2 HB2
    refine (read_c P w3).mono ?_
    rintro e w4 ⟨⟨e4, rfl, he1, he2⟩, hd⟩
    have HR4 := blk_to HR3 hd
    have HK4 := blk_to HK3 hd
    have hB3 : B + 1 < w3.heap.size := Err.lt_of_block HK3.out
    have HB4 := below_to HB3 (by omega) hd
    clear hd HR3 HK3 HB3
    obtain ⟨S, hS⟩ : ∃ S, slotOf P = S := ⟨_, rfl⟩
    rw [hS] at he1 he2
    rw [hS]
    have HS := Lib.hid hS
    have hn0 := slotOf_nonneg P
    rw [hS] at hn0
    clear hS
    obtain ⟨T0, hT⟩ : ∃ T0, bestOf d i = T0 := ⟨_, rfl⟩
    have hT0 := bestOf_nonneg d i
    rw [hT] at HK4 hT0
    have HT := Lib.hid hT
    clear hT
    by_cases hg : 0 < S.g
    ·obtain rfl := he1 hg
     clear he1 he2
     have hb5 : Below w4.heap.size w4 (w4.alloc (Obj.cells S.a 62 (0, 0))) := (Below.refl _ _).alloc (Nat.le_refl _) _
     have HR5 := blk_to HR4 hb5
     have HK5 := blk_to HK4 hb5
     have hB4 : B + 1 < w4.heap.size := Err.lt_of_block HK4.out
     have HB5 := below_to HB4 (by omega) hb5
     obtain ⟨kc0, kc1, kc2, kc3⟩ := sl_keep HK4.out hb5
     by_cases hlt : T0.g < S.g
     ·have c3 : decide (T0.g < S.g) = true := decide_eq_true hlt
      have HLt := Lib.hid hlt
      clear hlt
      go_wp2_with (first
       | (refine wl_allocS rfl rfl ?_)
       | (refine wl_storeSn 0 0 0 0 S.g S.x S.y S.z rfl _ _ rfl rfl rfl ?_)
       | (refine wl_loadS w4.heap.size S.g S.x S.y S.z (heap_alloc_last _ _) rfl _ rfl rfl ?_)
       | (refine wl_storeS (B + 1) T0.g T0.x T0.y T0.z S.g S.x S.y S.z HK5.out rfl _ _ rfl rfl rfl ?_))
      have hm5 := mod_row (w4.alloc (Obj.cells S.a 62 (0, 0))) (B + 1) S.a
      have HR6 := Lib.hid (hm5.blk HR5.out (by omega))
      have hB5 : B + 1 < (w4.alloc (Obj.cells S.a 62 (0, 0))).heap.size := Err.lt_of_block HK5.out
      have HB6 := Lib.hid (HB5.out.trans (hm5.below (by omega) (fun i hi (e : i = B + 1) => by omega)))
      have HK6 := Lib.hid (show ((w4.alloc (Obj.cells S.a 62 (0, 0))).setRow (B + 1) S.a).heap[B + 1]? = some (Obj.cells (bestOf d (i + 1)).a 62 (0, 0)) from by
       have e : bestOf d (i + 1) = S := by
        show pick (bestOf d i) (slotOf (rd d (i : Int))) = S
        rw [HT.out, HP.out, HS.out]; unfold pick; rw [if_pos HLt.out]
       rw [e]
       exact srow_at _ _ T0.g T0.x T0.y T0.z _ _ _ _ HK5.out)
      clear hm5
      go_roundg k1
      case measure => exact Nat.lt_succ_self _
      case rel => exact ⟨i + 1, by simp, by omega, HB6, HR6, HK6, Lib.hid (fun j hj => by
       by_cases e : j = i
       ·rw [e]; exact HMi.out
       ·exact HN.out j (by omega))⟩
     ·have c3 : decide (T0.g < S.g) = false := decide_eq_false hlt
      have HLt := Lib.hid hlt
      clear hlt
      go_wp2_with (first
       | (refine wl_allocS rfl rfl ?_)
       | (refine wl_storeSn 0 0 0 0 S.g S.x S.y S.z rfl _ _ rfl rfl rfl ?_))
      have HK6 := Lib.hid (show (w4.alloc (Obj.cells S.a 62 (0, 0))).heap[B + 1]? = some (Obj.cells (bestOf d (i + 1)).a 62 (0, 0)) from by
       have e : bestOf d (i + 1) = T0 := by
        show pick (bestOf d i) (slotOf (rd d (i : Int))) = T0
        rw [HT.out, HP.out, HS.out]; unfold pick; rw [if_neg (by have := HLt.out; omega)]
       rw [e]
       exact HK5.out)
      go_roundg k1
      case measure => exact Nat.lt_succ_self _
      case rel => exact ⟨i + 1, by simp, by omega, HB5, HR5, HK6, Lib.hid (fun j hj => by
       by_cases e : j = i
       ·rw [e]; exact HMi.out
       ·exact HN.out j (by omega))⟩
    ·obtain ⟨T, u, rfl, he⟩ := he2 hg
     clear he1 he2 he
     have hlt : ¬ T0.g < S.g := by omega
     have HLt := Lib.hid hlt
     clear hlt
     have hb5 : Below w4.heap.size w4 (w4.alloc (Obj.cells S.a 62 (0, 0))) := (Below.refl _ _).alloc (Nat.le_refl _) _
     have HR5 := blk_to HR4 hb5
     have HK5 := blk_to HK4 hb5
     have hB4 : B + 1 < w4.heap.size := Err.lt_of_block HK4.out
     have HB5 := below_to HB4 (by omega) hb5
     clear hb5
     go_wp2_with (first
      | (refine wl_allocS rfl rfl ?_)
      | (refine wl_storeSn 0 0 0 0 S.g S.x S.y S.z rfl _ _ rfl rfl rfl ?_))
     have HK6 := Lib.hid (show (w4.alloc (Obj.cells S.a 62 (0, 0))).heap[B + 1]? = some (Obj.cells (bestOf d (i + 1)).a 62 (0, 0)) from by
      have e : bestOf d (i + 1) = T0 := by
       show pick (bestOf d i) (slotOf (rd d (i : Int))) = T0
       rw [HT.out, HP.out, HS.out]; unfold pick; rw [if_neg (by have := HLt.out; omega)]
      rw [e]
      exact HK5.out)
     go_roundg k1
     case measure => exact Nat.lt_succ_self _
     case rel => exact ⟨i + 1, by simp, by omega, HB5, HR5, HK6, Lib.hid (fun j hj => by
      by_cases e : j = i
      ·rw [e]; exact HMi.out
      ·exact HN.out j (by omega))⟩
   ·go_wp2_with fail
    refine (read_may wr R M v d (i : Int) HD hm).mono ?_
    rintro e w2 ⟨T, u, rfl, he, hd⟩
    have HE := Lib.hid he
    have HM := Lib.hid hm
    have HR2 := blk_to HR hd
    have HB2 := below_to HB (by omega) hd
    clear he hd hm
    have hb3 : Below w2.heap.size w2 (w2.alloc (Obj.cells (pa pz) 100 (0, 0))) := (Below.refl _ _).alloc (Nat.le_refl _) _
    have HR3 := blk_to HR2 hb3
    have HE3 := Lib.hid (HE.out.on hb3)
    have hB2 : B < w2.heap.size := Err.lt_of_block HR2.out
    have HB3 := below_to HB2 (by omega) hb3
    go_wp2_with (first
     | (refine wl_alloc30 rfl rfl ?_)
     | (refine wl_store30n pz pz rfl _ _ rfl rfl rfl ?_)
     | (refine wl_storeS B 0 0 0 0 0 0 0 0 HR3.out rfl _ _ rfl rfl rfl ?_))
    (try simp only [Exit.inBlock, Exit.then])
    refine bodyPost_ret (v := .tuple #[.agg (slA 0 0 0 0), .iface T u]) ?_ rfl ?_
    ·exact best_results _ _ B 0 0 0 0 (.iface T u) rfl rfl (srow_at _ _ 0 0 0 0 _ _ _ _ HR3.out)
    have hm3 := mod_row (w2.alloc (Obj.cells (pa pz) 100 (0, 0))) B (slA 0 0 0 0)
    have hB3 : B < (w2.alloc (Obj.cells (pa pz) 100 (0, 0))).heap.size := Err.lt_of_block HR3.out
    have hx : ∀ j : Nat, j < 2 → (∀ q : Nat, q < j → mayN d (q : Int) = 0) → mayN d (j : Int) ≠ 0 → j = i := by
     intro j hj hq hne
     rcases Nat.lt_trichotomy j i with g | g | g
     ·exact absurd (HN.out j g) hne
     ·exact g
     ·exact absurd (hq i g) HM.out
    refine ⟨?_, fun a b => ?_, fun a b => ?_, fun j hj hq hne => ?_⟩
    ·rw [hB]; exact HB3.out.trans (hm3.below (by omega) (fun i hi (e : i = B) => by omega))
    ·exfalso
     rcases i with _ | _ | i
     ·exact HM.out a
     ·exact HM.out b
     ·omega
    ·exfalso
     rcases i with _ | _ | i
     ·exact HM.out a
     ·exact HM.out b
     ·omega
    ·obtain rfl := hx j hj hq hne
     exact ⟨T, u, rfl, isErr_mod HE3.out hm3 (fun b cs hb (hf : b = B) => by rw [hf, HR3.out] at hb; simp at hb)⟩
theorem bit_ones (n : Nat) : bit 18446744073709551615 n = true := by
 have key : ∀ k, k < 64 → (18446744073709551615 / 2 ^ k % 2 == 1) = true := by decide
 exact key _ (Nat.mod_lt _ (by omega))
theorem stl_ones : ∀ (l : List (Int × Pg)) (F : Int → Pg) (n : Nat), stl 18446744073709551615 F l n = fun j => l.foldl (fun out x => if x.1 = j then x.2 else out) (F j)
 | [], F, n => rfl
 | x :: l, F, n => by
  rw [stl, bit_ones, if_pos rfl, stl_ones l]
  funext j
  show List.foldl _ (upd F x.1 x.2 j) l = List.foldl _ (if x.1 = j then x.2 else F j) l
  congr 1
  unfold upd
  by_cases e : x.1 = j
  ·rw [if_pos e, if_pos e.symm]
  ·rw [if_neg e, if_neg (fun h => e h.symm)]
def flushed (d : Dsk) : Dsk := { d with firm := rd d, soft := [] }
theorem flushed_eq (d : Dsk) : ({ d with firm := stl 18446744073709551615 d.firm d.soft 0, soft := [] } : Dsk) = flushed d := by
 unfold flushed
 rw [stl_ones]
 rfl
def switched (d : Dsk) (s : Sl) : Dsk := { d with firm := upd (rd d) (s.g % 2) s.lay, soft := [], budget := max (d.budget - 1) (-1) }
theorem switched_eq (d : Dsk) (s : Sl) : flushed { flushed d with soft := (flushed d).soft ++ [(s.g % 2, s.lay)], budget := max ((flushed d).budget - 1) (-1) } = switched d s := by
 have e : rd { flushed d with soft := (flushed d).soft ++ [(s.g % 2, s.lay)], budget := max ((flushed d).budget - 1) (-1) } = upd (rd d) (s.g % 2) s.lay := by
  funext j
  rw [rd_snoc]
  unfold upd
  by_cases h : s.g % 2 = j
  ·rw [if_pos h, if_pos h.symm]
  ·rw [if_neg h, if_neg (fun g => h g.symm)]
   rfl
 unfold flushed at e ⊢
 unfold switched
 rw [e]
set_option maxHeartbeats 8000000 in
set_option maxRecDepth 100000 in
theorem switch_ok (w : World) (R M : Nat) (v : Value) (d : Dsk) (s : Sl) (h : Hid (IsD w R M v d)) (hr : s.Rt) (hdn : Hid (d.down = false)) (hsz : 2 ≤ d.size) (hb : d.budget ≠ 0) (hb0 : -1 ≤ d.budget) (hb1 : d.budget < 9223372036854775808) (hl : d.soft.length ≤ 9000) :
  Calls Tryz.prog 41 #[.pointer (some ⟨R, 0, none⟩), .agg s.a] w fun ev w' => ev = .returned .nilIface ∧ Mod (Ft R M v) w w' ∧ IsD w' R M (.slice none 0 0) (switched d s) := by
 have HRt := Lib.hid hr
 have hg0 : 0 ≤ s.g := by have := hr.g0; omega
 have hg1 : s.g < 4294967296 := hr.g1
 clear hr
 go_enter Tryz.func41, Tryz.ntmps41
 go_wp2_with fail
 have hb1' : Below w.heap.size w (w.alloc (Obj.cells s.a 62 (0, 0))) := (Below.refl _ _).alloc (Nat.le_refl _) _
 refine (lay_ok s.g s.x s.y s.z _ HRt.out).mono ?_
 rintro e w2 ⟨rfl, hd⟩
 have HB2 := Lib.hid (hb1'.trans (hd.mono hb1'.size))
 have HK2 := blk_to (Lib.hid (heap_alloc_last w (Obj.cells s.a 62 (0, 0)))) hd
 obtain ⟨K, hK⟩ : ∃ K, w.heap.size = K := ⟨_, rfl⟩
 rw [hK] at HK2
 simp only [hK]
 have hRK : ∀ i, Ft R M v i → i < K := by rw [← hK]; exact h.out.ft_lt
 clear hd hb1'
 obtain ⟨P, hP⟩ : ∃ P, layP s.g s.x s.y s.z = P := ⟨_, rfl⟩
 have HP := Lib.hid hP
 rw [hP]
 clear hP
 go_wp2_with (first
  | (refine wl_alloc30 rfl rfl ?_)
  | (refine wl_store30n pz P rfl _ _ rfl rfl rfl ?_))
 have hb3 : Below w2.heap.size w2 (w2.alloc (Obj.cells (pa P) 100 (0, 0))) := (Below.refl _ _).alloc (Nat.le_refl _) _
 have HB3 := Lib.hid (HB2.out.trans (hb3.mono HB2.out.size))
 have HK3 := blk_to HK2 hb3
 have HP3 := Lib.hid (heap_alloc_last w2 (Obj.cells (pa P) 100 (0, 0)))
 obtain ⟨G, hG⟩ : ∃ G, w2.heap.size = G := ⟨_, rfl⟩
 have hKG : K < G := by rw [← hG]; exact Err.lt_of_block HK2.out
 rw [hG] at HP3
 simp only [hG]
 generalize (w2.alloc (Obj.cells (pa P) 100 (0, 0))) = w3 at *
 clear hb3 HB2 HK2
 have HD3 := Lib.hid (h.out.on HB3.out)
 refine (flush_ok w3 R M v d HD3 (mayN_zero hdn.out (by omega) (by omega)) hl).mono ?_
 rintro e w4 ⟨rfl, hm, hd⟩
 rw [flushed_eq] at hd
 have HM4 := Lib.hid ((Mod.of_below (S := Ft R M v) HB3.out (Nat.le_refl _)).tr hm)
 have HD4 := Lib.hid hd
 have HK4 := Lib.hid (hm.blk HK3.out (fun hf => by have := hRK _ hf; omega))
 have HP4 := Lib.hid (hm.blk HP3.out (fun hf => by have := hRK _ hf; omega))
 clear hm hd HB3 HK3 HP3 HD3
 have k0 : w4.cell? ⟨K, 0, none⟩ = some (.int .u32 s.g) := Err.cell_of_blk HK4.out 0
 go_wp2_with (first
  | (refine wl_load30 G P HP4.out rfl _ rfl rfl ?_))
 refine (write_ok w4 R M (.slice none 0 0) (flushed d) (s.g % 2) P HD4 hdn (by omega) (by show s.g % 2 < d.size; omega) hb hb0 hb1 (by show (0 : Nat) ≤ 9000; omega)).mono ?_
 rintro e w5 ⟨rfl, v5, hm, hd, hv⟩
 have hnil : ∀ i, Ft R M (.slice none 0 0) i → Ft R M v i := by
  rintro i (rfl | rfl | e)
  ·exact .inl rfl
  ·exact .inr (.inl rfl)
  ·simp [Value.ownBlock] at e
 have HV5 := Lib.hid (show ∀ i, i < w.heap.size → Ft R M v5 i → Ft R M v i from by
  rintro i hi (rfl | rfl | e)
  ·exact .inl rfl
  ·exact .inr (.inl rfl)
  ·rcases hv with g | ⟨b, g, hb⟩
   ·rw [g] at e; simp [Value.ownBlock] at e
   ·rw [g] at e; cases e; have := HM4.out.size; omega)
 have HM5 := Lib.hid (HM4.out.trans hm (fun i hi hf => hnil i hf))
 have HD5 := Lib.hid hd
 clear hm hd hv HK4 HP4 k0 HM4 HD4 hnil
 go_wp2_with fail
 refine (flush_ok w5 R M v5 _ HD5 (mayN_zero hdn.out (by omega) (by show (0 : Int) < d.size; omega)) (by show (([] : List (Int × Pg)) ++ [(s.g % 2, P)]).length ≤ 9000; simp)).mono ?_
 rintro e w6 ⟨rfl, hm, hd⟩
 rw [flushed_eq] at hd
 have HM6 := Lib.hid (HM5.out.trans hm HV5.out)
 have HD6 := Lib.hid (show IsD w6 R M (.slice none 0 0) (switched d s) from by rw [← switched_eq, show s.lay = P from HP.out]; exact hd)
 clear hm hd HM5 HD5
 go_wp2_with fail
 go_ret
 exact ⟨rfl, HM6.out, HD6.out⟩
set_option maxHeartbeats 8000000 in
set_option maxRecDepth 100000 in
theorem switch_spent (w : World) (R M : Nat) (v : Value) (d : Dsk) (s : Sl) (h : Hid (IsD w R M v d)) (hr : s.Rt) (hdn : Hid (d.down = false)) (hsz : 2 ≤ d.size) (hb : d.budget = 0) (hl : d.soft.length ≤ 9000) :
  Calls Tryz.prog 41 #[.pointer (some ⟨R, 0, none⟩), .agg s.a] w fun ev w' => (∃ T u, ev = .returned (.iface T u) ∧ IsErr w' (.iface T u) 10) ∧ Mod (Ft R M v) w w' ∧ IsD w' R M (.slice none 0 0) (flushed d) := by
 have HRt := Lib.hid hr
 have hg0 : 0 ≤ s.g := by have := hr.g0; omega
 have hg1 : s.g < 4294967296 := hr.g1
 clear hr
 go_enter Tryz.func41, Tryz.ntmps41
 go_wp2_with fail
 have hb1' : Below w.heap.size w (w.alloc (Obj.cells s.a 62 (0, 0))) := (Below.refl _ _).alloc (Nat.le_refl _) _
 refine (lay_ok s.g s.x s.y s.z _ HRt.out).mono ?_
 rintro e w2 ⟨rfl, hd⟩
 have HB2 := Lib.hid (hb1'.trans (hd.mono hb1'.size))
 have HK2 := blk_to (Lib.hid (heap_alloc_last w (Obj.cells s.a 62 (0, 0)))) hd
 obtain ⟨K, hK⟩ : ∃ K, w.heap.size = K := ⟨_, rfl⟩
 rw [hK] at HK2
 simp only [hK]
 have hRK : ∀ i, Ft R M v i → i < K := by rw [← hK]; exact h.out.ft_lt
 clear hd hb1'
 obtain ⟨P, hP⟩ : ∃ P, layP s.g s.x s.y s.z = P := ⟨_, rfl⟩
 have HP := Lib.hid hP
 rw [hP]
 clear hP
 go_wp2_with (first
  | (refine wl_alloc30 rfl rfl ?_)
  | (refine wl_store30n pz P rfl _ _ rfl rfl rfl ?_))
 have hb3 : Below w2.heap.size w2 (w2.alloc (Obj.cells (pa P) 100 (0, 0))) := (Below.refl _ _).alloc (Nat.le_refl _) _
 have HB3 := Lib.hid (HB2.out.trans (hb3.mono HB2.out.size))
 have HK3 := blk_to HK2 hb3
 have HP3 := Lib.hid (heap_alloc_last w2 (Obj.cells (pa P) 100 (0, 0)))
 obtain ⟨G, hG⟩ : ∃ G, w2.heap.size = G := ⟨_, rfl⟩
 have hKG : K < G := by rw [← hG]; exact Err.lt_of_block HK2.out
 rw [hG] at HP3
 simp only [hG]
 generalize (w2.alloc (Obj.cells (pa P) 100 (0, 0))) = w3 at *
 clear hb3 HB2 HK2
 have HD3 := Lib.hid (h.out.on HB3.out)
 refine (flush_ok w3 R M v d HD3 (mayN_zero hdn.out (by omega) (by omega)) hl).mono ?_
 rintro e w4 ⟨rfl, hm, hd⟩
 rw [flushed_eq] at hd
 have HM4 := Lib.hid ((Mod.of_below (S := Ft R M v) HB3.out (Nat.le_refl _)).tr hm)
 have HD4 := Lib.hid hd
 have HK4 := Lib.hid (hm.blk HK3.out (fun hf => by have := hRK _ hf; omega))
 have HP4 := Lib.hid (hm.blk HP3.out (fun hf => by have := hRK _ hf; omega))
 clear hm hd HB3 HK3 HP3 HD3
 have k0 : w4.cell? ⟨K, 0, none⟩ = some (.int .u32 s.g) := Err.cell_of_blk HK4.out 0
 go_wp2_with (first
  | (refine wl_load30 G P HP4.out rfl _ rfl rfl ?_))
 refine (write_spent w4 R M (.slice none 0 0) (flushed d) (s.g % 2) P HD4 (mayN_zero hdn.out (by omega) (by show s.g % 2 < d.size; omega)) hb).mono ?_
 rintro e w5 ⟨T, u, rfl, he, hd⟩
 have HE := Lib.hid he
 have HM5 := Lib.hid (HM4.out.on_below hd (Nat.le_refl _))
 have HD5 := Lib.hid (HD4.out.on hd)
 clear he hd HK4 HP4 k0 HM4 HD4
 go_wp2_with fail
 go_ret
 exact ⟨⟨T, u, rfl, HE.out⟩, HM5.out, HD5.out⟩
end Go.Proofs.YtaodgnladjafoaaGreatDoor.Slt
namespace Go.Proofs.YtaodgnladjafoaaGreatDoor.Slt
open Go.Proofs.YtaodgnladjafoaaGreatDoor.AdM (sum bl bl_length A B A_one A_lt B_lt)
open Go.RowKit Go.Proofs.YtaodgnladjafoaaGreatDoor.QStoreLasts Go.Proofs.YtaodgnladjafoaaGreatDoorW.PrintWords Go.Proofs.YtaodgnladjafoaaGreatDoorW.PrintLast Go.Proofs.YtaodgnladjafoaaGreatDoorW.PrintMore Go.Proofs.YtaodgnladjafoaaGreatDoor.CdM Go.Proofs.YtaodgnladjafoaaGreatDoor.Md Go.Proofs.YtaodgnladjafoaaGreatDoor.Dk Go.Proofs.YtaodgnladjafoaaGreatDoor.Blb
open Go.Extern.Stop (cell)
open Go.Proofs.YtaodgnladjafoaaGreatDoor.Err (Laid IsErr code_nil code_c Chain at_some at_nil)
theorem slotOf_pz : slotOf pz = Sl.zero := slotOf_sum (by decide +kernel)
theorem rd_switched (d : Dsk) (s : Sl) (j : Int) : rd (switched d s) j = if j = s.g % 2 then s.lay else rd d j := rfl
theorem slotOf_self {s : Sl} (h : s.Rt) : slotOf s.lay = s := slotOf_lay h rfl
theorem best_pz {d : Dsk} (h0 : rd d 0 = pz) (h1 : rd d 1 = pz) : bestOf d 2 = Sl.zero := by
 show pick (pick Sl.zero (slotOf (rd d ((0 : Nat) : Int)))) (slotOf (rd d ((1 : Nat) : Int))) = _
 rw [show rd d ((0 : Nat) : Int) = pz from h0, show rd d ((1 : Nat) : Int) = pz from h1, slotOf_pz]
 rfl
theorem bestOf_two (d : Dsk) : bestOf d 2 = pick (pick Sl.zero (slotOf (rd d 0))) (slotOf (rd d 1)) := rfl
theorem pick_z {s : Sl} (h : 0 < s.g) : pick Sl.zero s = s := by unfold pick; exact if_pos h
theorem ft_nil {R M : Nat} {v : Value} {n : Nat} : ∀ i, Ft R M (.slice none 0 0) i → Ft R M v i ∨ n ≤ i := by
 rintro i (rfl | rfl | e)
 ·exact .inl (.inl rfl)
 ·exact .inl (.inr (.inl rfl))
 ·simp [Value.ownBlock] at e
end Go.Proofs.YtaodgnladjafoaaGreatDoor.Slt
