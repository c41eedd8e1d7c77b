/- fail.Trail: what was done, the outermost wrapping first. -/
import Derived.Test.YtmccdopagidfnaaDoorTrail1
set_option linter.unusedVariables false
namespace Go.Proofs.YtmccdopagidfnaaDoor.ErrF
open Go.RowKit Go.Extern.Stop Go.Stop Go.Extern
open Go.Proofs.YtmccdopagidfnaaDoor.Err (hd Wrote Laid Chain below_on cell_of_blk)
open Go.Proofs.YtmccdopagidfnaaDoorW.PrintWords Go.Proofs.YtmccdopagidfnaaDoorW.PrintLast Go.Proofs.YtmccdopagidfnaaDoorW.PrintMore
theorem Mid.grown_cell {w w1 w2 : World} {v x : Value} {xs : List ByteArray} (h : Mid w w1 v xs) (hg : w1.grownBy w2 v.ownBlock) (hc : w1.cell? ⟨w.heap.size, 0, none⟩ = some x) : w2.cell? ⟨w.heap.size, 0, none⟩ = some x := by
  have hl := lt_of_cell hc
  have hne : some w.heap.size ≠ v.ownBlock := fun e => h.1.1 _ e.symm rfl
  have hbk := hg.block w.heap.size hl hne
  rw [← hc]; simp [World.cell?, hbk]
theorem Mid.drew {w w1 : World} {v : Value} {xs : List ByteArray} (h : Mid w w1 v xs) : Mid w w1.drew v xs :=
  ⟨Kd.R_drew h.1, h.2.1.drew, by obtain ⟨old, h3⟩ := h.2.2.1; exact ⟨old, by simpa using h3⟩, by simpa using h.2.2.2⟩
set_option maxHeartbeats 4000000 in
set_option maxRecDepth 100000 in
theorem trail_c (v : Value) (n : Int) (l : List (ByteArray × ByteArray)) (w : World) (hch : Hid (Chain w v n l)) (hg : Hid (Laid w)) (hl : l.length ≤ 1000) :
    Calls Tryd.prog 9 #[v] w fun ev w' => ∃ A c, ev = .returned (.slice A l.length c) ∧ l.length ≤ c ∧ Kd.string.C w' A l.length (l.map Prod.fst) ∧ Below w.heap.size w w' := by
  have HM0 := Lib.hid (Mid.start w _ (.pointer none) rfl)
  go_enter Tryd.func9, Tryd.ntmps9
  go_wp2_with fail
  go_loopg [0, 3] l.length (fun kq v0 v1 w' => ∃ (l1 l2 : List (ByteArray × ByteArray)), Hid (l = l1 ++ l2) ∧ Hid (kq = l2.length) ∧ Hid (Chain w v0 n l2) ∧ Hid (Mid w w' v1 (l1.map Prod.fst)))
  case atStart => exact ⟨[], l, rfl, rfl, hch, HM0⟩
  case round =>
    clear hch HM0
    obtain ⟨l1, l2, hll, hk, hc, HM⟩ := hrel
    have HG := Lib.hid (hg.out.on HM.out.2.1)
    cases hc.out with
    | base =>
      go_wp2_with fail
      refine (As_none n _ _ HG).mono ?_
      rintro ev w1 ⟨rfl, hd⟩
      go_wp2_with fail
      go_ret
      have hl1 : l1 = l := by have := hll.out; rw [List.append_nil] at this; exact this.symm
      subst hl1
      obtain ⟨A, c, rfl, hcap, hC⟩ := Kd.R_reads HM.out.1
      rw [List.length_map] at hcap hC ⊢
      exact ⟨A, c, rfl, hcap, Kd.C_below hC hd, HM.out.2.1.trans (hd.mono HM.out.2.1.size)⟩
    | wrap b op path e0 _ l3 hblk hnext =>
      obtain ⟨T, x, rfl⟩ := hnext.iface
      obtain ⟨old, hold⟩ := HM.out.2.2.1
      have HN := Lib.hid hnext
      have HK := Lib.hid hblk
      clear hnext hblk hc
      cases gk with
      | zero => exact absurd hk.out (by simp)
      | succ k1 =>
        go_wp2_with fail
        refine (As_some ⟨b, 0, none⟩ ⟨w.heap.size, 0, none⟩ old _ HG (Lib.hid hold) (Lib.hid HM.out.2.2.2)).mono ?_
        rintro ev w1 ⟨rfl, hw⟩
        obtain ⟨hm1, hf1⟩ := HM.out.wrote hw
        have HM1 := Lib.hid hm1
        clear hm1 hw hold
        have hop : w1.cell? ⟨b, 0, none⟩ = some (.string op) := (HM1.out.2.1.cell (p := ⟨b, 0, none⟩) (Err.lt_of_block HK.out)).trans (cell_of_blk HK.out 0)
        have HF := Lib.hid hf1
        go_wp2_with (at_builtin; refine Kd.R_append Kd.string (w0 := w) w.heap.size rfl (.tmp 12) (.tmp 17) 22 9 (.string ByteArray.empty) 16 rfl Tryd.underlying22 info_str rfl (by decide) (by omega) u3 (l1.map Prod.fst) op [.string op] (fun k => k ≠ w.heap.size) (fun _ => False) rfl rfl ?aP (fun _ hk => hk.elim) ?aF ?aO ?aB ?aS ?aL ?_; (case aP => exact rfl); (case aF => exact fun k hk e => by { have := lt_of_cell HF.out; simp at hk this; omega }); (case aO => exact (by repeat (first | exact HM1.out | apply Mid.drew) : Mid w _ u3 (l1.map Prod.fst)).1); (case aB => exact (by repeat (first | exact HM1.out | apply Mid.drew) : Mid w _ u3 (l1.map Prod.fst)).2.1); (case aS => exact (by repeat (first | exact HM1.out | apply Mid.drew) : Mid w _ u3 (l1.map Prod.fst)).2.1.size); (case aL => have := congrArg List.length hll.out; simp at this ⊢; omega); intro v2 w2 ho hb hgr _; have HM2 := Lib.hid (Mid.grown (by repeat (first | exact HM1.out | apply Mid.drew)) ho hb hgr); have hf2 := Mid.grown_cell (by repeat (first | exact HM1.out | apply Mid.drew)) hgr (by simpa using HF.out); clear ho hb hgr hf1 hop; have herr : w2.cell? ⟨b, 2, none⟩ = some (.iface T x) := (HM2.out.2.1.cell (p := ⟨b, 2, none⟩) (Err.lt_of_block HK.out)).trans (cell_of_blk HK.out 2))
        go_roundg k1
        case measure => exact Nat.lt_succ_self _
        case rel =>
          refine ⟨l1 ++ [(op, path)], l3, Lib.hid (by rw [hll.out]; simp), Lib.hid (by have := hk.out; simpa using this), HN, ?_⟩
          have hM := HM2.out
          rw [List.map_append]
          exact Lib.hid hM
end Go.Proofs.YtmccdopagidfnaaDoor.ErrF
