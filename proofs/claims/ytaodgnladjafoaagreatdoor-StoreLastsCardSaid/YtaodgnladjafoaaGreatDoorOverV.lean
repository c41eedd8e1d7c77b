/- Words that the proof uses. -/
import Derived.Test.YtaodgnladjafoaaGreatDoorBlob23V
import Derived.Test.YtaodgnladjafoaaGreatDoorReaderAllV
set_option linter.unusedVariables false
set_option linter.unusedSimpArgs false
namespace Go.Proofs.YtaodgnladjafoaaGreatDoor.Rdr
open Go.RowKit Go.Proofs.YtaodgnladjafoaaGreatDoorW.PrintWords Go.Proofs.YtaodgnladjafoaaGreatDoorW.PrintLast Go.Proofs.YtaodgnladjafoaaGreatDoorW.PrintMore Go.Proofs.YtaodgnladjafoaaGreatDoor.CdM Go.Proofs.YtaodgnladjafoaaGreatDoor.Md
theorem stands_mid (a c : ByteArray) (y : Nat) : Stands (a ++ numS y ++ c) a.size y := by
  intro j hj
  have hl : (numS y).size = (num y).length := numS_size y
  have h1 : a.size + j < (a ++ numS y ++ c).size := by simp only [ByteArray.size_append]; omega
  refine ⟨h1, ?_⟩
  have e1 : (a ++ numS y ++ c)[a.size + j]'h1 = (numS y)[j]'(by omega) := by
    rw [ByteArray.getElem_append_left (by simp only [ByteArray.size_append]; omega), ByteArray.getElem_append_right (by omega)]
    congr 1; omega
  rw [e1]
  have e2 : (numS y)[j]'(by omega) = (numS y).data.toList[j]'(by rw [Array.length_toList]; have : (numS y).data.size = (numS y).size := rfl; omega) := by
    rw [Array.getElem_toList]; rfl
  rw [e2]
  have e3 : ∀ (l : List UInt8) (h : l = (num y).map UInt8.ofNat) (h2 : j < l.length), (l[j]'h2).toNat = (num y).getD j 0 := by
    intro l h h2
    subst h
    have hj' : j < (num y).length := by simpa using h2
    have hb := num_byte y ((num y)[j]'hj') (List.getElem_mem hj')
    simp [List.getD_eq_getElem?_getD, List.getElem?_eq_getElem hj']
    omega
  exact e3 _ (digs_u8 y) _
theorem new_v (s : ByteArray) (w : World) : Calls Tryz.prog 72 #[.string s] w fun ev w' => ∃ R, w.heap.size ≤ R ∧ ev = .returned (.pointer (some ⟨R, 0, none⟩)) ∧ Hid (Has w' R s 0) ∧ Below w.heap.size w w' := by
  refine (new_c s w).mono ?_
  rintro e w' ⟨rfl, h1, h2⟩
  exact ⟨_, Nat.le_refl _, rfl, Lib.hid h1, h2⟩
end Go.Proofs.YtaodgnladjafoaaGreatDoor.Rdr
namespace Go.Proofs.YtaodgnladjafoaaGreatDoor.Blb
open Go.Proofs.YtaodgnladjafoaaGreatDoor.AdM (sum bl A B A_one A_lt)
open Go.RowKit Go.Proofs.YtaodgnladjafoaaGreatDoor.QStoreLasts Go.Proofs.YtaodgnladjafoaaGreatDoorW.PrintWords Go.Proofs.YtaodgnladjafoaaGreatDoorW.PrintLast Go.Proofs.YtaodgnladjafoaaGreatDoorW.PrintMore Go.Proofs.YtaodgnladjafoaaGreatDoor.CdM Go.Proofs.YtaodgnladjafoaaGreatDoor.Md Go.Proofs.YtaodgnladjafoaaGreatDoor.Dk
end Go.Proofs.YtaodgnladjafoaaGreatDoor.Blb
