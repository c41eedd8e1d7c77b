/- Several texts in one: words that the proof of the law uses. -/
import Derived.Test.YtaodgnladjafoaaGreatDoorStore1112V
import Derived.Test.YtaodgnladjafoaaGreatDoorManiBack0V
set_option linter.unusedVariables false
set_option linter.unusedSimpArgs false
namespace Go.Proofs.YtaodgnladjafoaaGreatDoor.Sto
open Go.RowKit Go.Proofs.YtaodgnladjafoaaGreatDoorW.PrintWords Go.Proofs.YtaodgnladjafoaaGreatDoorW.PrintLast Go.Proofs.YtaodgnladjafoaaGreatDoorW.PrintMore Go.Proofs.YtaodgnladjafoaaGreatDoor.Md Go.Proofs.YtaodgnladjafoaaGreatDoor.Mni Go.Proofs.YtaodgnladjafoaaGreatDoor.QStoreLasts
open Go.Proofs.YtaodgnladjafoaaGreatDoor.Dk (Dsk IsD Ft mayN rd)
open Go.Proofs.YtaodgnladjafoaaGreatDoor.Slt (Sl switched bestOf)
open Go.Proofs.YtaodgnladjafoaaGreatDoor.Err (Laid IsErr code_nil code_c Chain at_some at_nil)
theorem upTo_mem {n : Nat} {x : Int} : x ∈ upTo n ↔ 0 ≤ x ∧ x < (n : Int) := by
  unfold upTo
  rw [List.mem_map]
  constructor
  · rintro ⟨i, hi, rfl⟩
    rw [List.mem_range] at hi
    omega
  · rintro ⟨h0, h1⟩
    exact ⟨x.toNat, by rw [List.mem_range]; omega, by omega⟩
theorem upTo_nodup : ∀ n : Nat, (upTo n).Nodup
  | 0 => List.nodup_nil
  | n + 1 => by
    rw [upTo_succ]
    refine List.nodup_append.2 ⟨upTo_nodup n, by simp, fun a ha b hb => ?_⟩
    rw [List.mem_singleton] at hb
    subst hb
    have := upTo_mem.1 ha
    omega
theorem refsS_size : ∀ (l : List Rf), (∀ r ∈ l, 0 ≤ r.f0 ∧ r.f0 ≤ 4611686018427387904 ∧ 0 ≤ r.f1 ∧ r.f1 ≤ 4611686018427387904 ∧ 0 ≤ r.f2 ∧ r.f2 ≤ 4294967295) → (refsS l).size ≤ 27 * l.length
  | [], _ => Nat.le_refl _
  | r :: l, h => by
    have h1 := refS_size r (h r List.mem_cons_self)
    have h2 := refsS_size l (fun x hx => h x (List.mem_cons_of_mem _ hx))
    show (refS r ++ refsS l).size ≤ _
    rw [ByteArray.size_append, List.length_cons]
    omega
theorem lay_size {rs : List Rf} (hl : rs.length ≤ 8) (hf : Fits (withM rs)) : (layM (withM rs)).size ≤ 384 := by
  have h1 := refsS_size rs hf.1
  have b1 := numsS_size [((withM rs).refs.length : Int)] (fun x hx => by
    rw [List.mem_singleton] at hx; subst hx
    exact ⟨by omega, by show (rs.length : Int) ≤ _; omega⟩)
  have b2 := numsS_size [((withM rs).stack.length : Int)] (fun x hx => by
    rw [List.mem_singleton] at hx; subst hx
    exact ⟨by omega, by show ((upTo rs.length).length : Int) ≤ _; rw [upTo_len]; omega⟩)
  have b3 := numsS_size (withM rs).stack hf.2.1
  have b4 := numsS_size [(withM rs).upper + 1, ((withM rs).snaps.length : Int)] (fun x hx => by
    have hx : x ∈ [(-1 : Int) + 1, ((0 : Nat) : Int)] := hx
    simp only [List.mem_cons, List.not_mem_nil, or_false] at hx
    rcases hx with rfl | rfl <;> decide)
  have hk : (withM rs).stack.length = rs.length := upTo_len _
  unfold layM midS
  have hs : snapsS (withM rs).snaps = ⟨#[]⟩ := rfl
  rw [hs, ByteArray.size_append, ByteArray.size_append, ByteArray.size_append, ByteArray.size_append, ByteArray.size_append]
  have h1' : (refsS (withM rs).refs).size ≤ 27 * rs.length := h1
  have e0 : (⟨#[]⟩ : ByteArray).size = 0 := rfl
  simp only [List.length_cons, List.length_nil] at b1 b2 b4
  rw [hk] at b3
  omega
theorem read_lay {m : Man} {n : Int} (hr : rightM m n = true) (hw : ∀ r ∈ m.refs, 0 ≤ r.f2 ∧ r.f2 ≤ 4294967295) : readP (layM m) n = some m := by
  have hl := lim_right hr hw
  have hp := parts_lay (s := layM m) (m := m) (p := 0) ⟨[], by simp⟩ hl
  unfold readP
  rw [hp, Option.bind_some]
  rw [if_pos ⟨by show 0 + (layM m).size = _; omega, hr⟩]
theorem Txt.new (d : Dsk) (t : ByteArray) (n c : Nat) (hc : 2 ≤ c) (hn : (c : Int) + (n : Int) ≤ d.size) (h1 : 1 ≤ t.size) (h2 : t.size ≤ 16384) (hp : (t.size + 63) / 64 = n) : Txt { d with soft := d.soft ++ Blb.pgs t (c : Int) n } ⟨(c : Int), (t.size : Int), AdM.sum t⟩ t n := by
  have hpg := Blb.pages_of t h1 h2
  rw [hp] at hpg
  refine ⟨hpg, by omega, by show (2 : Int) ≤ (c : Int); omega, hn, rfl, rfl, by omega, fun i hi => ?_⟩
  show Dk.rd _ ((c : Int) + (i : Int)) = _
  rw [Blb.rd_pgs, if_pos (by omega)]
  congr 1
  omega
theorem Txt.sw {d : Dsk} {r : Rf} {t : ByteArray} {n : Nat} {sl : Sl} (h : Txt d r t n) (hg : 0 ≤ sl.g) : Txt (switched d sl) r t n := by
  refine ⟨h.pg, h.n1, h.x0, h.x1, h.len, h.sum, h.sz, fun i hi => ?_⟩
  have := h.x0
  rw [Slt.rd_switched, if_neg (by omega)]
  exact h.tx i hi
end Go.Proofs.YtaodgnladjafoaaGreatDoor.Sto
