/- Several texts in one: words that the proof of the law uses. -/
import Derived.Test.YtaodgnladjafoaaGreatDoorStore6V
import Derived.Test.YtaodgnladjafoaaGreatDoorStore3V
set_option linter.unusedVariables false
set_option linter.unusedSimpArgs false
namespace Go.Proofs.YtaodgnladjafoaaGreatDoor.Sto
open Go.RowKit Go.Proofs.YtaodgnladjafoaaGreatDoorW.PrintWords Go.Proofs.YtaodgnladjafoaaGreatDoorW.PrintLast Go.Proofs.YtaodgnladjafoaaGreatDoorW.PrintMore Go.Proofs.YtaodgnladjafoaaGreatDoor.Md Go.Proofs.YtaodgnladjafoaaGreatDoor.Mni Go.Proofs.YtaodgnladjafoaaGreatDoor.QStoreLasts
open Go.Proofs.YtaodgnladjafoaaGreatDoor.Dk (Dsk IsD Ft mayN rd)
open Go.Proofs.YtaodgnladjafoaaGreatDoor.Slt (Sl switched bestOf)
open Go.Proofs.YtaodgnladjafoaaGreatDoor.Err (Laid IsErr code_nil code_c Chain at_some at_nil)
theorem getD_false {xs : List Bool} {j : Nat} : xs.getD j true = false ↔ xs[j]? = some false := by
  rw [List.getD_eq_getElem?_getD]
  cases xs[j]? with
  | none => simp
  | some b => simp
theorem find_at (xs : List Bool) (n : Nat) (hn : 1 ≤ n) : (∃ a : Nat, SpM.find xs (n : Int) xs.length 0 = ((a : Int), true) ∧ SpM.least xs n xs.length 0 = (a : Int) ∧ a + n ≤ xs.length ∧ (∀ j, a ≤ j → j < a + n → xs[j]? = some false) ∧ ∀ b, b < a → ¬ ∀ j, b ≤ j → j < b + n → xs[j]? = some false) ∨
    (SpM.find xs (n : Int) xs.length 0 = (0, false) ∧ SpM.least xs n xs.length 0 = -1 ∧ ∀ b, b + n ≤ xs.length → ¬ ∀ j, b ≤ j → j < b + n → xs[j]? = some false) := by
  rcases SpM.find_least xs n hn with ⟨j, hj, hnj, h1, h2, h3, h4⟩ | ⟨h1, h2, h3⟩
  · refine .inl ⟨j + 1 - n, ?_, ?_, by omega, fun i hi1 hi2 => ?_, fun b hb hall => ?_⟩
    · rw [h1]
      have : (j : Int) - (n : Int) + 1 = ((j + 1 - n : Nat) : Int) := by omega
      rw [this]
    · rw [h2]; omega
    · exact getD_false.1 (SpM.run_free xs (j + 1) i (by rw [h3]; exact hi1) (by omega))
    · have hr := SpM.run_of_free xs b n (fun i hi1 hi2 => getD_false.2 (hall i hi1 hi2))
      have := h4 (b + n - 1) (by omega)
      rw [show b + n - 1 + 1 = b + n by omega] at this
      omega
  · refine .inr ⟨h1, h2, fun b hb hall => ?_⟩
    have hr := SpM.run_of_free xs b n (fun i hi1 hi2 => getD_false.2 (hall i hi1 hi2))
    have := h3 (b + n) hb
    omega
theorem find_c (xs : List Bool) (c n : Nat) (hn : 1 ≤ n) (hl : c + n ≤ xs.length) (h : ∀ i, i < xs.length → xs[i]? = some (decide (i < c))) : SpM.find xs (n : Int) xs.length 0 = ((c : Int), true) := by
  have hfree : ∀ j, c ≤ j → j < c + n → xs[j]? = some false := fun j h1 h2 => by
    rw [h j (by omega), decide_eq_false (by omega)]
  rcases find_at xs n hn with ⟨a, h1, _, h3, h4, h5⟩ | ⟨_, _, h3⟩
  · have hac : a = c := by
      rcases Nat.lt_trichotomy a c with g | g | g
      · have z := h4 a (Nat.le_refl _) (by omega)
        rw [h a (by omega), decide_eq_true g] at z
        cases z
      · exact g
      · exact (h5 c g hfree).elim
    rw [h1, hac]
  · exact (h3 c hl hfree).elim
theorem start_get (n i : Nat) (hi : i < n) : (Mni.start n)[i]? = some (decide (i < 2)) := by
  unfold Mni.start
  rw [List.getElem?_set, List.getElem?_set]
  by_cases h1 : 1 = i
  · subst h1
    simp [hi]
  · rw [if_neg h1]
    by_cases h0 : 0 = i
    · subst h0
      simp [hi]
    · rw [if_neg h0, List.getElem?_replicate, if_pos hi, decide_eq_false (by omega)]
theorem used_e (s : St) : used emptyM s = markAll (Mni.start s.d.size.toNat) (s.own :: s.put ++ keys s) := rfl
theorem used_get (s : St) (N i : Nat) (hN : s.d.size = (N : Int)) (hi : i < N) : (used emptyM s)[i]? = some (decide (i < 2) || (s.own :: s.put ++ keys s).any (fun r => covers r i)) := by
  rw [used_e, markAll_get, hN, Int.toNat_natCast, start_get N i hi]
  rfl
theorem used_size (s : St) (N : Nat) (hN : s.d.size = (N : Int)) : (used emptyM s).length = N := by
  rw [used_e, markAll_len, hN, Int.toNat_natCast, Mni.start_len]
theorem ok_e {s : St} (h : 2 ≤ s.d.size ∧ s.d.size ≤ 2048) (hr : ∀ r ∈ s.own :: s.put ++ keys s, 0 ≤ r.f0 ∧ r.f0 ≤ 1000000) (hl : s.put.length ≤ 1000000) : Ok emptyM s := ⟨Nat.zero_le _, Nat.zero_le _, right_empty h, hr, hl⟩
theorem covers_eq (x y z : Int) (i n : Nat) (h : Blb.pagesV y = (n : Int)) : covers ⟨x, y, z⟩ i = decide (x ≤ (i : Int) ∧ (i : Int) < x + (n : Int)) := by
  have e : pagesV y = (n : Int) := h
  unfold covers
  rw [e]
def d0 (n : Nat) : Dsk := ⟨(n : Int), fun _ => Dk.pz, [], false, -1⟩
def sF (n : Nat) : St := swS (s0 (d0 n)) 2
theorem zr_no (i : Nat) : covers zr i = false := by
  unfold zr
  rw [covers_eq 0 0 0 i 0 (by decide)]
  exact decide_eq_false (by omega)
theorem find_0 (n : Nat) (h : 3 ≤ n) : SpM.find (used emptyM (s0 (d0 n))) ((1 : Nat) : Int) (used emptyM (s0 (d0 n))).length 0 = (((2 : Nat) : Int), true) := by
  have hl := used_size (s0 (d0 n)) n rfl
  refine find_c _ 2 1 (Nat.le_refl _) (by omega) (fun i hi => ?_)
  rw [used_get (s0 (d0 n)) n i rfl (by omega)]
  have : (((s0 (d0 n)).own :: (s0 (d0 n)).put ++ keys (s0 (d0 n))).any fun r => covers r i) = false := by
    show ([zr].any fun r => covers r i) = false
    simp [zr_no]
  rw [this, Bool.or_false]
theorem own_c (x z : Int) (i : Nat) : covers ⟨x, (tE.size : Int), z⟩ i = decide (x = (i : Int)) := by
  rw [covers_eq x _ z i 1 pages_tE]
  exact decide_eq_decide.2 (by omega)
theorem used_F (n i : Nat) (hi : i < n) : (used emptyM (sF n))[i]? = some (decide (i < 3)) := by
  rw [used_get (sF n) n i rfl hi]
  have : (((sF n).own :: (sF n).put ++ keys (sF n)).any fun r => covers r i) = decide ((2 : Int) = (i : Int)) := by
    show ([(⟨2, (tE.size : Int), AdM.sum tE⟩ : Rf)].any fun r => covers r i) = _
    simp only [List.any_cons, List.any_nil, Bool.or_false]
    exact own_c 2 _ i
  rw [this, ← Bool.decide_or]
  exact congrArg some (decide_eq_decide.2 (by omega))
theorem best_0 (n : Nat) : ¬ 0 < (bestOf (d0 n) 2).g := by
  rw [Slt.best_pz (d := d0 n) rfl rfl]
  decide
theorem may_0 (n : Nat) (i : Int) (h0 : 0 ≤ i) (h1 : i < (n : Int)) : mayN (d0 n) i = 0 := by
  unfold mayN
  have : ¬ (i < 0 ∨ (d0 n).size ≤ i) := by
    show ¬ (i < 0 ∨ (n : Int) ≤ i)
    omega
  rw [if_neg this]
  rfl
structure Run (w0 w : World) (q : Pl) (o : Mni.Loc) (m : Man) (s : St) : Prop where
  bel : Below w0.heap.size w0 w
  fr : ∀ i, Fs q i → w0.heap.size ≤ i
  is : IsS w q o m s
theorem Run.on {w0 w w' : World} {q : Pl} {o : Mni.Loc} {m : Man} {s : St} (h : Run w0 w q o m s) (k : Below w.heap.size w w') : Run w0 w' q o m s := ⟨h.bel.trans (k.mono h.bel.size), h.fr, h.is.on k⟩
theorem Run.step {w0 w w' : World} {q q' : Pl} {o o' : Mni.Loc} {m m' : Man} {s s' : St} (h : Run w0 w q o m s) (k : Stp w q w' q') (h' : IsS w' q' o' m' s') : Run w0 w' q' o' m' s' :=
  ⟨h.bel.trans (k.mod.below h.bel.size (fun i hi f => by have := h.fr i f; omega)), fun i f => (k.foot i f).elim (h.fr i) (fun e => Nat.le_trans h.bel.size e), h'⟩
theorem Run.new {w0 w w' : World} {Z R M H : Nat} {o : Mni.Loc} {m : Man} {s : St} (hb : Below w0.heap.size w0 w) (hR : w0.heap.size ≤ R) (hM : w0.heap.size ≤ M) (hZ : w.heap.size ≤ Z) (hH : w.heap.size ≤ H) (k : Mod (Ft R M (.slice none 0 0)) w w') (h : IsS w' ⟨Z, R, M, H, .slice none 0 0, .slice none 0 0⟩ o m s) : Run w0 w' ⟨Z, R, M, H, .slice none 0 0, .slice none 0 0⟩ o m s := by
  refine ⟨hb.trans (k.below hb.size (fun i hi f => ?_)), ?_, h⟩
  · rcases f with e | e | e
    · omega
    · omega
    · cases e
  · rintro i (e | e | e | e)
    · have e : i = Z := e
      have := hb.size
      omega
    · have e : i = H := e
      have := hb.size
      omega
    · rcases e with e | e | e
      · have e : i = R := e; omega
      · have e : i = M := e; omega
      · cases e
    · cases e
def hello : ByteArray := ⟨#[104, 101, 108, 108, 111]⟩
theorem ok_F (n : Nat) (h : 8 ≤ n ∧ n ≤ 2048) : Ok emptyM (sF n) := by
  refine ok_e ⟨by show (2 : Int) ≤ (n : Int); omega, by show (n : Int) ≤ 2048; omega⟩ (fun r hr => ?_) (Nat.zero_le _)
  have : r = (sF n).own := by simpa [sF, swS, s0, keys] using hr
  rw [this]
  exact ⟨show (0 : Int) ≤ 2 by decide, show (2 : Int) ≤ 1000000 by decide⟩
theorem find_F (n k : Nat) (h8 : 8 ≤ n) (hk : 1 ≤ k) (hn : 3 + k ≤ n) : SpM.find (used emptyM (sF n)) (k : Int) (used emptyM (sF n)).length 0 = (((3 : Nat) : Int), true) := by
  have hl := used_size (sF n) n rfl
  exact find_c _ 3 k hk (by omega) (fun i hi => used_F n i (by omega))
theorem R_one {w : World} {g : Nat} {r : Rf} (h : w.heap[g]? = some (Obj.cells (ra r) 36 (0, 0))) : rk.R 36 w 0 (fun _ => True) (.slice (some ⟨g, 0, none⟩) 1 1) [r] :=
  ⟨fun _ _ => trivial, [.int .i64 r.f0, .int .i64 r.f1, .int .u32 r.f2], ⟨rfl, .inr ⟨g, 1, ra r, rfl, Nat.zero_le _, h, Nat.le_refl _, by decide, rfl, rfl⟩⟩, Reps.snoc (Reps.none _ _) (k36_mkM _ _ _ _) rfl⟩
end Go.Proofs.YtaodgnladjafoaaGreatDoor.Sto
