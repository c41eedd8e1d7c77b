/- Several texts in one: words that the proof of the law uses. -/
import Derived.Test.YtaodgnladjafoaaGreatDoorStore6V
import Derived.Test.YtaodgnladjafoaaGreatDoorStore3V
set_option linter.unusedVariables false
set_option linter.unusedSimpArgs false
namespace Go.Proofs.YtaodgnladjafoaaGreatDoor.Sto
open Go.RowKit Go.Proofs.YtaodgnladjafoaaGreatDoorW.PrintWords Go.Proofs.YtaodgnladjafoaaGreatDoorW.PrintLast Go.Proofs.YtaodgnladjafoaaGreatDoorW.PrintMore Go.Proofs.YtaodgnladjafoaaGreatDoor.Md Go.Proofs.YtaodgnladjafoaaGreatDoor.Mni Go.Proofs.YtaodgnladjafoaaGreatDoor.QStoreLasts
open Go.Proofs.YtaodgnladjafoaaGreatDoor.Dk (Dsk IsD Ft mayN rd)
open Go.Proofs.YtaodgnladjafoaaGreatDoor.Slt (Sl switched bestOf)
open Go.Proofs.YtaodgnladjafoaaGreatDoor.Err (Laid IsErr code_nil code_c Chain at_some at_nil)
theorem getD_false {xs : List Bool} {j : Nat} : xs.getD j true = false ↔ xs[j]? = some false := by
  rw [List.getD_eq_getElem?_getD]
  cases xs[j]? with
  | none => simp
  | some b => simp
theorem find_at (xs : List Bool) (n : Nat) (hn : 1 ≤ n) : (∃ a : Nat, SpM.find xs (n : Int) xs.length 0 = ((a : Int), true) ∧ SpM.least xs n xs.length 0 = (a : Int) ∧ a + n ≤ xs.length ∧ (∀ j, a ≤ j → j < a + n → xs[j]? = some false) ∧ ∀ b, b < a → ¬ ∀ j, b ≤ j → j < b + n → xs[j]? = some false) ∨
    (SpM.find xs (n : Int) xs.length 0 = (0, false) ∧ SpM.least xs n xs.length 0 = -1 ∧ ∀ b, b + n ≤ xs.length → ¬ ∀ j, b ≤ j → j < b + n → xs[j]? = some false) := by
  rcases SpM.find_least xs n hn with ⟨j, hj, hnj, h1, h2, h3, h4⟩ | ⟨h1, h2, h3⟩
  · refine .inl ⟨j + 1 - n, ?_, ?_, by omega, fun i hi1 hi2 => ?_, fun b hb hall => ?_⟩
    · rw [h1]
      have : (j : Int) - (n : Int) + 1 = ((j + 1 - n : Nat) : Int) := by omega
      rw [this]
    · rw [h2]; omega
    · exact getD_false.1 (SpM.run_free xs (j + 1) i (by rw [h3]; exact hi1) (by omega))
    · have hr := SpM.run_of_free xs b n (fun i hi1 hi2 => getD_false.2 (hall i hi1 hi2))
      have := h4 (b + n - 1) (by omega)
      rw [show b + n - 1 + 1 = b + n by omega] at this
      omega
  · refine .inr ⟨h1, h2, fun b hb hall => ?_⟩
    have hr := SpM.run_of_free xs b n (fun i hi1 hi2 => getD_false.2 (hall i hi1 hi2))
    have := h3 (b + n) hb
    omega
theorem find_c (xs : List Bool) (c n : Nat) (hn : 1 ≤ n) (hl : c + n ≤ xs.length) (h : ∀ i, i < xs.length → xs[i]? = some (decide (i < c))) : SpM.find xs (n : Int) xs.length 0 = ((c : Int), true) := by
  have hfree : ∀ j, c ≤ j → j < c + n → xs[j]? = some false := fun j h1 h2 => by
    rw [h j (by omega), decide_eq_false (by omega)]
  rcases find_at xs n hn with ⟨a, h1, _, h3, h4, h5⟩ | ⟨_, _, h3⟩
  · have hac : a = c := by
      rcases Nat.lt_trichotomy a c with g | g | g
      · have z := h4 a (Nat.le_refl _) (by omega)
        rw [h a (by omega), decide_eq_true g] at z
        cases z
      · exact g
      · exact (h5 c g hfree).elim
    rw [h1, hac]
  · exact (h3 c hl hfree).elim
theorem start_get (n i : Nat) (hi : i < n) : (Mni.start n)[i]? = some (decide (i < 2)) := by
  unfold Mni.start
  rw [List.getElem?_set, List.getElem?_set]
  by_cases h1 : 1 = i
  · subst h1
    simp [hi]
  · rw [if_neg h1]
    by_cases h0 : 0 = i
    · subst h0
      simp [hi]
    · rw [if_neg h0, List.getElem?_replicate, if_pos hi, decide_eq_false (by omega)]
theorem used_e (s : St) : used emptyM s = markAll (Mni.start s.d.size.toNat) (s.own :: s.put ++ keys s) := rfl
theorem used_get (s : St) (N i : Nat) (hN : s.d.size = (N : Int)) (hi : i < N) : (used emptyM s)[i]? = some (decide (i < 2) || (s.own :: s.put ++ keys s).any (fun r => covers r i)) := by
  rw [used_e, markAll_get, hN, Int.toNat_natCast, start_get N i hi]
  rfl
theorem used_size (s : St) (N : Nat) (hN : s.d.size = (N : Int)) : (used emptyM s).length = N := by
  rw [used_e, markAll_len, hN, Int.toNat_natCast, Mni.start_len]
theorem ok_e {s : St} (h : 2 ≤ s.d.size ∧ s.d.size ≤ 2048) (hr : ∀ r ∈ s.own :: s.put ++ keys s, 0 ≤ r.f0 ∧ r.f0 ≤ 1000000) (hl : s.put.length ≤ 1000000) : Ok emptyM s := ⟨Nat.zero_le _, Nat.zero_le _, right_empty h, hr, hl⟩
theorem covers_eq (x y z : Int) (i n : Nat) (h : Blb.pagesV y = (n : Int)) : covers ⟨x, y, z⟩ i = decide (x ≤ (i : Int) ∧ (i : Int) < x + (n : Int)) := by
  have e : pagesV y = (n : Int) := h
  unfold covers
  rw [e]
def d0 (n : Nat) : Dsk := ⟨(n : Int), fun _ => Dk.pz, [], false, -1⟩
def sF (n : Nat) : St := swS (s0 (d0 n)) 2
theorem zr_no (i : Nat) : covers zr i = false := by
  unfold zr
  rw [covers_eq 0 0 0 i 0 (by decide)]
  exact decide_eq_false (by omega)
theorem find_0 (n : Nat) (h : 3 ≤ n) : SpM.find (used emptyM (s0 (d0 n))) ((1 : Nat) : Int) (used emptyM (s0 (d0 n))).length 0 = (((2 : Nat) : Int), true) := by
  have hl := used_size (s0 (d0 n)) n rfl
  refine find_c _ 2 1 (Nat.le_refl _) (by omega) (fun i hi => ?_)
  rw [used_get (s0 (d0 n)) n i rfl (by omega)]
  have : (((s0 (d0 n)).own :: (s0 (d0 n)).put ++ keys (s0 (d0 n))).any fun r => covers r i) = false := by
    show ([zr].any fun r => covers r i) = false
    simp [zr_no]
  rw [this, Bool.or_false]
theorem own_c (x z : Int) (i : Nat) : covers ⟨x, (tE.size : Int), z⟩ i = decide (x = (i : Int)) := by
  rw [covers_eq x _ z i 1 pages_tE]
  exact decide_eq_decide.2 (by omega)
theorem used_F (n i : Nat) (hi : i < n) : (used emptyM (sF n))[i]? = some (decide (i < 3)) := by
  rw [used_get (sF n) n i rfl hi]
  have : (((sF n).own :: (sF n).put ++ keys (sF n)).any fun r => covers r i) = decide ((2 : Int) = (i : Int)) := by
    show ([(⟨2, (tE.size : Int), AdM.sum tE⟩ : Rf)].any fun r => covers r i) = _
    simp only [List.any_cons, List.any_nil, Bool.or_false]
    exact own_c 2 _ i
  rw [this, ← Bool.decide_or]
  exact congrArg some (decide_eq_decide.2 (by omega))
theorem best_0 (n : Nat) : ¬ 0 < (bestOf (d0 n) 2).g := by
  rw [Slt.best_pz (d := d0 n) rfl rfl]
  decide
theorem may_0 (n : Nat) (i : Int) (h0 : 0 ≤ i) (h1 : i < (n : Int)) : mayN (d0 n) i = 0 := by
  unfold mayN
  have : ¬ (i < 0 ∨ (d0 n).size ≤ i) := by
    show ¬ (i < 0 ∨ (n : Int) ≤ i)
    omega
  rw [if_neg this]
  rfl
theorem Format_new (w : World) (R M : Nat) (v : Value) (n : Nat) (h : Hid (IsD w R M v (d0 n))) (h8 : 8 ≤ n) (h2 : n ≤ 2048) :
    Calls Tryz.prog 9 #[.pointer (some ⟨R, 0, none⟩)] w fun e w' => ∃ Z H, w.heap.size ≤ Z ∧ w.heap.size ≤ H ∧ e = .returned (.tuple #[.pointer (some ⟨Z, 0, none⟩), .nilIface]) ∧ IsS w' ⟨Z, R, M, H, .slice none 0 0, .slice none 0 0⟩ oE emptyM (sF n) ∧ Mod (Ft R M v) w w' :=
  Format_ok w R M v (d0 n) 2 h (by show (8 : Int) ≤ (n : Int); omega) (by show (n : Int) ≤ 2048; omega) (may_0 n 0 (by omega) (by omega)) (may_0 n 1 (by omega) (by omega)) (best_0 n) (Lib.hid rfl) (Lib.hid rfl) (by show 0 + 1 ≤ 9000; omega) (Lib.hid (find_0 n (by omega))) (by decide) (by show (2 : Int) + 1 ≤ (n : Int); omega)
structure Run (w0 w : World) (q : Pl) (o : Mni.Loc) (m : Man) (s : St) : Prop where
  bel : Below w0.heap.size w0 w
  fr : ∀ i, Fs q i → w0.heap.size ≤ i
  is : IsS w q o m s
theorem Run.on {w0 w w' : World} {q : Pl} {o : Mni.Loc} {m : Man} {s : St} (h : Run w0 w q o m s) (k : Below w.heap.size w w') : Run w0 w' q o m s := ⟨h.bel.trans (k.mono h.bel.size), h.fr, h.is.on k⟩
theorem Run.step {w0 w w' : World} {q q' : Pl} {o o' : Mni.Loc} {m m' : Man} {s s' : St} (h : Run w0 w q o m s) (k : Stp w q w' q') (h' : IsS w' q' o' m' s') : Run w0 w' q' o' m' s' :=
  ⟨h.bel.trans (k.mod.below h.bel.size (fun i hi f => by have := h.fr i f; omega)), fun i f => (k.foot i f).elim (h.fr i) (fun e => Nat.le_trans h.bel.size e), h'⟩
theorem Run.new {w0 w w' : World} {Z R M H : Nat} {o : Mni.Loc} {m : Man} {s : St} (hb : Below w0.heap.size w0 w) (hR : w0.heap.size ≤ R) (hM : w0.heap.size ≤ M) (hZ : w.heap.size ≤ Z) (hH : w.heap.size ≤ H) (k : Mod (Ft R M (.slice none 0 0)) w w') (h : IsS w' ⟨Z, R, M, H, .slice none 0 0, .slice none 0 0⟩ o m s) : Run w0 w' ⟨Z, R, M, H, .slice none 0 0, .slice none 0 0⟩ o m s := by
  refine ⟨hb.trans (k.below hb.size (fun i hi f => ?_)), ?_, h⟩
  · rcases f with e | e | e
    · omega
    · omega
    · cases e
  · rintro i (e | e | e | e)
    · have e : i = Z := e
      have := hb.size
      omega
    · have e : i = H := e
      have := hb.size
      omega
    · rcases e with e | e | e
      · have e : i = R := e; omega
      · have e : i = M := e; omega
      · cases e
    · cases e
def hello : ByteArray := ⟨#[104, 101, 108, 108, 111]⟩
theorem ok_F (n : Nat) (h : 8 ≤ n ∧ n ≤ 2048) : Ok emptyM (sF n) := by
  refine ok_e ⟨by show (2 : Int) ≤ (n : Int); omega, by show (n : Int) ≤ 2048; omega⟩ (fun r hr => ?_) (Nat.zero_le _)
  have : r = (sF n).own := by simpa [sF, swS, s0, keys] using hr
  rw [this]
  exact ⟨show (0 : Int) ≤ 2 by decide, show (2 : Int) ≤ 1000000 by decide⟩
theorem find_F (n k : Nat) (h8 : 8 ≤ n) (hk : 1 ≤ k) (hn : 3 + k ≤ n) : SpM.find (used emptyM (sF n)) (k : Int) (used emptyM (sF n)).length 0 = (((3 : Nat) : Int), true) := by
  have hl := used_size (sF n) n rfl
  exact find_c _ 3 k hk (by omega) (fun i hi => used_F n i (by omega))
theorem put_F (n : Nat) (h8 : 8 ≤ n) (h2 : n ≤ 2048) (Z R M H : Nat) (t : ByteArray) (k : Nat) (w : World) (h : Hid (IsS w ⟨Z, R, M, H, .slice none 0 0, .slice none 0 0⟩ oE emptyM (sF n))) (hp : Hid (Blb.pagesV (t.size : Int) = (k : Int))) (hk : 1 ≤ k) (hts : t.size ≤ 16384) (hn : 3 + k ≤ n) :
    Calls Tryz.prog 11 #[.pointer (some ⟨Z, 0, none⟩), .string t] w fun e w' => e = .returned (.tuple #[.agg (ra ⟨3, (t.size : Int), AdM.sum t⟩), .nilIface]) ∧ ∃ v' p', IsS w' ⟨Z, R, M, H, v', p'⟩ oE emptyM (putS (sF n) 3 t k) ∧ Stp w ⟨Z, R, M, H, .slice none 0 0, .slice none 0 0⟩ w' ⟨Z, R, M, H, v', p'⟩ :=
  Put_ok Z R M H _ _ oE emptyM (sF n) t k 3 w h (ok_F n ⟨h8, h2⟩) hp hk hts (Lib.hid (find_F n k h8 hk hn)) (by decide) (by show (3 : Int) + (k : Int) ≤ (n : Int); omega) (Lib.hid rfl) (Lib.hid rfl) (by show 0 + k ≤ 9000; omega)
set_option maxHeartbeats 2000000 in
set_option maxRecDepth 100000 in
theorem awake_c (w : World) : Calls Tryz.prog 7 #[] w fun e w' => e = .returned (.bool true) ∧ Below w.heap.size w w' := by
  go_enter Tryz.func7, Tryz.ntmps7
  go_wp2_with fail
  refine (Dk.new_c w 20 (by decide) (by decide)).mono ?_
  rintro e w1 ⟨R, M, hR, hM, rfl, hd, hi⟩
  have H1 := Lib.hid (show IsD w1 R M (.slice none 0 0) (d0 20) from hi)
  have HB1 := Lib.hid hd
  have HRM := Lib.hid (And.intro hR hM)
  clear hR hM hd hi
  go_wp2_with fail
  refine (Format_new w1 R M _ 20 H1 (by decide) (by decide)).mono ?_
  rintro e w2 ⟨Z, H, hZ, hH, rfl, hi, hm⟩
  have HU := Lib.hid (Run.new HB1.out HRM.out.1 HRM.out.2 hZ hH hm hi)
  clear hZ hH hi hm H1 HB1 HRM
  go_wp2_with fail
  refine (put_F 20 (by decide) (by decide) Z R M H hello 1 w2 (Lib.hid HU.out.is) (Lib.hid (by decide)) (by decide) (by decide) (by decide)).mono ?_
  rintro e w3 ⟨rfl, v3, p3, hi, hs⟩
  have HU3 := Lib.hid (HU.out.step hs hi)
  clear hi hs HU
  obtain ⟨r, hr⟩ : ∃ r : Rf, r = ⟨3, (hello.size : Int), AdM.sum hello⟩ := ⟨_, rfl⟩
  rw [← hr]
  have hr0 : r.f0 = 3 := by rw [hr]
  clear hr
  go_upto_region 4 with (first | (refine wl_allocR rfl rfl ?_) | (refine wl_storeRn #[.int .i64 0, .int .i64 0, .int .u32 0] rfl r rfl _ _ rfl rfl rfl ?_))
  have hd4 : Below w3.heap.size w3 (w3.alloc (Obj.cells (ra r) 36 (0, 0))) := (Below.refl _ _).alloc (Nat.le_refl _) _
  have HK4 := Lib.hid (heap_alloc_last w3 (Obj.cells (ra r) 36 (0, 0)))
  have HU4 := Lib.hid (HU3.out.on hd4)
  obtain ⟨K, hK⟩ : ∃ K, w3.heap.size = K := ⟨_, rfl⟩
  rw [hK] at HK4
  simp only [hK]
  generalize (w3.alloc (Obj.cells (ra r) 36 (0, 0))) = w4 at *
  clear hK hd4 HU3
  go_wp2_with fail
  refine (code_nil w4).mono ?_
  rintro e w5 ⟨rfl, hd⟩
  have HU5 := Lib.hid (HU4.out.on hd)
  have HK5 := blk_to HK4 hd
  clear hd HU4 HK4
  go_wp2_with fail
  refine (code_nil w5).mono ?_
  rintro e w6 ⟨rfl, hd⟩
  have HU6 := Lib.hid (HU5.out.on hd)
  have HK6 := blk_to HK5 hd
  clear hd HU5 HK5
  go_wp2_with fail
  refine (code_nil w6).mono ?_
  rintro e w7 ⟨rfl, hd⟩
  have HU7 := Lib.hid (HU6.out.on hd)
  have HK7 := blk_to HK6 hd
  clear hd HU6 HK6
  have ck : w7.cell? ⟨K, 0, none⟩ = some (.int .i64 3) := by
    rw [← hr0]; exact Err.cell_of_blk HK7.out 0
  clear hr0
  go_wp2_with fail
  clear ck
  refine (Gen_c Z R M H v3 p3 oE emptyM _ w7 (Lib.hid HU7.out.is)).mono ?_
  rintro e w8 ⟨rfl, hd⟩
  have HU8 := Lib.hid (HU7.out.on hd)
  have eg : (putS (sF 20) 3 hello 1).gen = 1 := rfl
  rw [eg]
  clear hd HU7 HK7 eg
  go_wp2_with fail
  go_ret
  exact ⟨rfl, HU8.out.bel⟩
end Go.Proofs.YtaodgnladjafoaaGreatDoor.Sto
