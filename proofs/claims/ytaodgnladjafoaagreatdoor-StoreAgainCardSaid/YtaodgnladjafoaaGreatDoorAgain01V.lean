/- Several texts in one: words that the proof of the law uses. -/
import Derived.Test.YtaodgnladjafoaaGreatDoorStore1112V
import Derived.Test.YtaodgnladjafoaaGreatDoorManiBack0V
set_option linter.unusedVariables false
set_option linter.unusedSimpArgs false
namespace Go.Proofs.YtaodgnladjafoaaGreatDoor.Sto
open Go.RowKit Go.Proofs.YtaodgnladjafoaaGreatDoorW.PrintWords Go.Proofs.YtaodgnladjafoaaGreatDoorW.PrintLast Go.Proofs.YtaodgnladjafoaaGreatDoorW.PrintMore Go.Proofs.YtaodgnladjafoaaGreatDoor.Md Go.Proofs.YtaodgnladjafoaaGreatDoor.Mni Go.Proofs.YtaodgnladjafoaaGreatDoor.QStoreLasts
open Go.Proofs.YtaodgnladjafoaaGreatDoor.Dk (Dsk IsD Ft mayN rd)
open Go.Proofs.YtaodgnladjafoaaGreatDoor.Slt (Sl switched bestOf)
open Go.Proofs.YtaodgnladjafoaaGreatDoor.Err (Laid IsErr code_nil code_c Chain at_some at_nil)
def Chn : List Rf → Nat → Nat → Prop
  | [], a, b => a = b
  | r :: l, a, b => r.f0 = (a : Int) ∧ ∃ n : Nat, pagesV r.f1 = (n : Int) ∧ 1 ≤ n ∧ Chn l (a + n) b
theorem Chn.le : ∀ {l : List Rf} {a b : Nat}, Chn l a b → a ≤ b
  | [], a, b, h => Nat.le_of_eq h
  | r :: l, a, b, ⟨_, n, _, _, h⟩ => by have := Chn.le h; omega
theorem Chn.snoc {r : Rf} {n : Nat} : ∀ {l : List Rf} {a b : Nat}, Chn l a b → r.f0 = (b : Int) → pagesV r.f1 = (n : Int) → 1 ≤ n → Chn (l ++ [r]) a (b + n)
  | [], a, b, h, h0, h1, h2 => by
    have e : a = b := h
    subst e
    exact ⟨h0, n, h1, h2, rfl⟩
  | x :: l, a, b, ⟨g0, k, g1, g2, h⟩, h0, h1, h2 => ⟨g0, k, g1, g2, Chn.snoc h h0 h1 h2⟩
theorem Chn.lt {r : Rf} : ∀ {l : List Rf} {a b : Nat}, Chn l a b → r ∈ l → (a : Int) ≤ r.f0 ∧ r.f0 < (b : Int)
  | [], a, b, h, hr => (List.not_mem_nil hr).elim
  | x :: l, a, b, ⟨g0, k, g1, g2, h⟩, hr => by
    have hle := Chn.le h
    rcases List.mem_cons.1 hr with rfl | hr
    · omega
    · have := Chn.lt h hr
      omega
def Pat (N a : Nat) (out : List Bool) : Prop := out.length = N ∧ ∀ i, i < N → out[i]? = some (decide (i < 2) || decide (3 ≤ i ∧ i < a))
theorem markP_pat (N : Nat) : ∀ (n a : Nat) (out : List Bool), 3 ≤ a → a + n ≤ N → Pat N a out → ∃ out', markP n a out = some out' ∧ Pat N (a + n) out'
  | 0, a, out, _, _, h => ⟨out, rfl, h⟩
  | n + 1, a, out, ha, hn, h => by
    have hz : out.getD a false = false := by
      rw [List.getD_eq_getElem?_getD, h.2 a (by omega)]
      simp
      omega
    have hp : Pat N (a + 1) (out.set a true) := by
      refine ⟨by rw [List.length_set]; exact h.1, fun i hi => ?_⟩
      rw [List.getElem?_set]
      by_cases e : a = i
      · subst e
        rw [if_pos rfl, if_pos (by rw [h.1]; exact hi)]
        have : decide (3 ≤ a ∧ a < a + 1) = true := decide_eq_true ⟨ha, by omega⟩
        rw [this, Bool.or_true]
      · rw [if_neg e, h.2 i hi]
        have : decide (3 ≤ i ∧ i < a) = decide (3 ≤ i ∧ i < a + 1) := decide_eq_decide.2 (by omega)
        rw [this]
    obtain ⟨o2, h1, h2⟩ := markP_pat N n (a + 1) _ (by omega) (by omega) hp
    refine ⟨o2, ?_, by rw [show a + (n + 1) = a + 1 + n by omega]; exact h2⟩
    show (if out.getD a false = true then none else markP n (a + 1) (out.set a true)) = _
    rw [hz, if_neg (by decide)]
    exact h1
theorem markR_pat (N : Nat) : ∀ (l : List Rf) (a b : Nat) (out : List Bool), 3 ≤ a → b ≤ N → Chn l a b → Pat N a out → ∃ out', markR (N : Int) l out = some out' ∧ Pat N b out'
  | [], a, b, out, _, _, h, hp => by
    have e : a = b := h
    subst e
    exact ⟨out, rfl, hp⟩
  | r :: l, a, b, out, ha, hb, ⟨g0, n, g1, g2, h⟩, hp => by
    have hle := Chn.le h
    obtain ⟨o1, h1, h2⟩ := markP_pat N n a out ha (by omega) hp
    obtain ⟨o2, h3, h4⟩ := markR_pat N l (a + n) b o1 (by omega) hb h h2
    refine ⟨o2, ?_, h4⟩
    rw [markR_cons, if_pos (rightV_iff.2 (by omega)), g1, g0, Int.toNat_natCast, Int.toNat_natCast, h1, Option.bind_some]
    exact h3
theorem upTo_mem {n : Nat} {x : Int} : x ∈ upTo n ↔ 0 ≤ x ∧ x < (n : Int) := by
  unfold upTo
  rw [List.mem_map]
  constructor
  · rintro ⟨i, hi, rfl⟩
    rw [List.mem_range] at hi
    omega
  · rintro ⟨h0, h1⟩
    exact ⟨x.toNat, by rw [List.mem_range]; omega, by omega⟩
theorem upTo_nodup : ∀ n : Nat, (upTo n).Nodup
  | 0 => List.nodup_nil
  | n + 1 => by
    rw [upTo_succ]
    refine List.nodup_append.2 ⟨upTo_nodup n, by simp, fun a ha b hb => ?_⟩
    rw [List.mem_singleton] at hb
    subst hb
    have := upTo_mem.1 ha
    omega
theorem marks_with {N c : Nat} {rs : List Rf} (hc : Chn rs 3 c) (hN : c ≤ N) : ∃ out, marks (withM rs) (N : Int) = some out ∧ Pat N c out := by
  refine markR_pat N rs 3 c _ (Nat.le_refl _) hN hc ⟨by rw [Int.toNat_natCast, Mni.start_len], fun i hi => ?_⟩
  rw [Int.toNat_natCast, start_get N i hi]
  have : decide (3 ≤ i ∧ i < 3) = false := decide_eq_false (by omega)
  rw [this, Bool.or_false]
theorem right_with {N c : Nat} {rs : List Rf} (hc : Chn rs 3 c) (hN : c ≤ N) (h2 : 2 ≤ N) (h3 : N ≤ 2048) (hl : rs.length ≤ 8) : rightM (withM rs) (N : Int) = true := by
  obtain ⟨out, h5, _⟩ := marks_with hc hN
  have hst : stacks (withM rs) = [upTo rs.length] := rfl
  obtain ⟨nm, h4⟩ := markS_mk rs.length [upTo rs.length] (List.replicate rs.length false) (fun l hl => by
    rw [List.mem_singleton] at hl
    subst hl
    exact ⟨fun x hx => upTo_mem.1 hx, upTo_nodup _⟩)
  have h4' : named (withM rs) = some nm := h4
  obtain ⟨f1, _, f3⟩ := named_fine h4'
  have hcf : nm.contains false = false := by
    rw [Bool.eq_false_iff]
    intro hcc
    rw [List.contains_iff_mem] at hcc
    obtain ⟨j, hj, e⟩ := List.getElem_of_mem hcc
    have z := (f3 j (by rw [← f1]; exact hj)).2 ⟨upTo rs.length, by rw [hst]; exact List.mem_singleton.2 rfl, upTo_mem.2 ⟨by omega, by
      have : nm.length = rs.length := f1
      omega⟩⟩
    rw [List.getD_eq_getElem?_getD, List.getElem?_eq_getElem hj, e] at z
    cases z
  unfold rightM
  rw [h4', h5, decide_eq_true (by omega)]
  have hsz : sizedB (withM rs) = true := by
    unfold sizedB
    have : anyLong (withM rs).snaps = false := rfl
    rw [this, decide_eq_true]
    · rfl
    · refine ⟨?_, ?_, Nat.zero_le _, Int.le_refl _⟩
      · show rs.length ≤ 64
        omega
      · show (upTo rs.length).length ≤ 8
        rw [upTo_len]; exact hl
  rw [hsz, Option.getD_some, hcf]
  rfl
theorem refsS_size : ∀ (l : List Rf), (∀ r ∈ l, 0 ≤ r.f0 ∧ r.f0 ≤ 4611686018427387904 ∧ 0 ≤ r.f1 ∧ r.f1 ≤ 4611686018427387904 ∧ 0 ≤ r.f2 ∧ r.f2 ≤ 4294967295) → (refsS l).size ≤ 27 * l.length
  | [], _ => Nat.le_refl _
  | r :: l, h => by
    have h1 := refS_size r (h r List.mem_cons_self)
    have h2 := refsS_size l (fun x hx => h x (List.mem_cons_of_mem _ hx))
    show (refS r ++ refsS l).size ≤ _
    rw [ByteArray.size_append, List.length_cons]
    omega
theorem lay_size {rs : List Rf} (hl : rs.length ≤ 8) (hf : Fits (withM rs)) : (layM (withM rs)).size ≤ 384 := by
  have h1 := refsS_size rs hf.1
  have b1 := numsS_size [((withM rs).refs.length : Int)] (fun x hx => by
    rw [List.mem_singleton] at hx; subst hx
    exact ⟨by omega, by show (rs.length : Int) ≤ _; omega⟩)
  have b2 := numsS_size [((withM rs).stack.length : Int)] (fun x hx => by
    rw [List.mem_singleton] at hx; subst hx
    exact ⟨by omega, by show ((upTo rs.length).length : Int) ≤ _; rw [upTo_len]; omega⟩)
  have b3 := numsS_size (withM rs).stack hf.2.1
  have b4 := numsS_size [(withM rs).upper + 1, ((withM rs).snaps.length : Int)] (fun x hx => by
    have hx : x ∈ [(-1 : Int) + 1, ((0 : Nat) : Int)] := hx
    simp only [List.mem_cons, List.not_mem_nil, or_false] at hx
    rcases hx with rfl | rfl <;> decide)
  have hk : (withM rs).stack.length = rs.length := upTo_len _
  unfold layM midS
  have hs : snapsS (withM rs).snaps = ⟨#[]⟩ := rfl
  rw [hs, ByteArray.size_append, ByteArray.size_append, ByteArray.size_append, ByteArray.size_append, ByteArray.size_append]
  have h1' : (refsS (withM rs).refs).size ≤ 27 * rs.length := h1
  have e0 : (⟨#[]⟩ : ByteArray).size = 0 := rfl
  simp only [List.length_cons, List.length_nil] at b1 b2 b4
  rw [hk] at b3
  omega
theorem read_lay {m : Man} {n : Int} (hr : rightM m n = true) (hw : ∀ r ∈ m.refs, 0 ≤ r.f2 ∧ r.f2 ≤ 4294967295) : readP (layM m) n = some m := by
  have hl := lim_right hr hw
  have hp := parts_lay (s := layM m) (m := m) (p := 0) ⟨[], by simp⟩ hl
  unfold readP
  rw [hp, Option.bind_some]
  rw [if_pos ⟨by show 0 + (layM m).size = _; omega, hr⟩]
def sl1 : Sl := ⟨1, 2, (tE.size : Int), AdM.sum tE⟩
structure PA (N c j : Nat) (s : St) (rs : List Rf) (ts : List ByteArray) : Prop where
  size : s.d.size = (N : Int)
  down : s.d.down = false
  budget : s.d.budget = -1
  soft : s.d.soft.length ≤ 32 * j
  gen : s.gen = 1
  own : s.own = (sF N).own
  held : s.held = []
  pt : s.put = rs
  rl : rs.length = j
  tl : ts.length = j
  c1 : c ≤ 3 + 32 * j
  chn : Chn rs 3 c
  usd : ∀ i, i < N → (used emptyM s)[i]? = some (decide (i < c))
  txt : ∀ (i : Nat) (r : Rf) (t : ByteArray), rs[i]? = some r → ts[i]? = some t → ∃ n, Txt s.d r t n ∧ r.f0 + (n : Int) ≤ (c : Int) ∧ 3 ≤ r.f0
  f2 : ∀ r ∈ rs, 0 ≤ r.f2 ∧ r.f2 ≤ 4294967295
  slot : rd s.d 1 = sl1.lay
theorem PA.start (N : Nat) : PA N 3 0 (sF N) [] [] := by
  refine ⟨rfl, rfl, rfl, Nat.le_refl _, rfl, rfl, rfl, rfl, rfl, rfl, Nat.le_refl _, rfl, fun i hi => used_F N i hi, fun i r t h => by simp at h, fun r hr => (List.not_mem_nil hr).elim, ?_⟩
  show rd (switched _ (⟨0 + 1, 2, (tE.size : Int), AdM.sum tE⟩ : Sl)) 1 = _
  rw [Slt.rd_switched, if_pos (by decide)]
  rfl
theorem own_F2 (N : Nat) : 0 ≤ (sF N).own.f0 ∧ (sF N).own.f0 ≤ 1000000 := ⟨show (0 : Int) ≤ 2 by decide, show (2 : Int) ≤ 1000000 by decide⟩
theorem PA.ok {N c j : Nat} {s : St} {rs : List Rf} {ts : List ByteArray} (h : PA N c j s rs ts) (h8 : 8 ≤ N) (h2 : N ≤ 2048) (hj : j ≤ 1000) : Ok emptyM s := by
  refine ok_e ⟨by rw [h.size]; omega, by rw [h.size]; omega⟩ (fun r hr => ?_) (by rw [h.pt, h.rl]; omega)
  have hk : keys s = [] := by unfold keys; rw [h.held]; rfl
  rw [hk, List.append_nil, h.pt] at hr
  rcases List.mem_cons.1 hr with e | e
  · rw [e, h.own]; exact own_F2 N
  · have := Chn.lt h.chn e
    have := h.c1
    omega
theorem Txt.put {d : Dsk} {r : Rf} {t t2 : ByteArray} {n n2 c : Nat} (h : Txt d r t n) (hc : r.f0 + (n : Int) ≤ (c : Int)) : Txt { d with soft := d.soft ++ Blb.pgs t2 (c : Int) n2 } r t n := by
  refine ⟨h.pg, h.n1, h.x0, h.x1, h.len, h.sum, h.sz, fun i hi => ?_⟩
  rw [Blb.rd_pgs, if_neg (by omega)]
  exact h.tx i hi
theorem Txt.new (d : Dsk) (t : ByteArray) (n c : Nat) (hc : 2 ≤ c) (hn : (c : Int) + (n : Int) ≤ d.size) (h1 : 1 ≤ t.size) (h2 : t.size ≤ 16384) (hp : (t.size + 63) / 64 = n) : Txt { d with soft := d.soft ++ Blb.pgs t (c : Int) n } ⟨(c : Int), (t.size : Int), AdM.sum t⟩ t n := by
  have hpg := Blb.pages_of t h1 h2
  rw [hp] at hpg
  refine ⟨hpg, by omega, by show (2 : Int) ≤ (c : Int); omega, hn, rfl, rfl, by omega, fun i hi => ?_⟩
  show Dk.rd _ ((c : Int) + (i : Int)) = _
  rw [Blb.rd_pgs, if_pos (by omega)]
  congr 1
  omega
theorem Txt.sw {d : Dsk} {r : Rf} {t : ByteArray} {n : Nat} {sl : Sl} (h : Txt d r t n) (hg : 0 ≤ sl.g) : Txt (switched d sl) r t n := by
  refine ⟨h.pg, h.n1, h.x0, h.x1, h.len, h.sum, h.sz, fun i hi => ?_⟩
  have := h.x0
  rw [Slt.rd_switched, if_neg (by omega)]
  exact h.tx i hi
theorem PA.more {N c j : Nat} {s : St} {rs : List Rf} {ts : List ByteArray} (h : PA N c j s rs ts) (t : ByteArray) (n : Nat) (h1 : 1 ≤ t.size) (h2 : t.size ≤ 2000) (hp : (t.size + 63) / 64 = n) (hn : c + n ≤ N) : PA N (c + n) (j + 1) (putS s (c : Int) t n) (rs ++ [⟨(c : Int), (t.size : Int), AdM.sum t⟩]) (ts ++ [t]) := by
  have hc3 := Chn.le h.chn
  have hpg := Blb.pages_of t h1 (by omega)
  rw [hp] at hpg
  have hz := Slt.sum_lt t
  have hu : ∀ i, i < N → (used emptyM (putS s (c : Int) t n))[i]? = some (decide (i < c + n)) := fun i hi => by
    have hk : keys s = [] := by unfold keys; rw [h.held]; rfl
    have g1 := used_get (putS s (c : Int) t n) N i h.size hi
    have g2 := h.usd i hi
    rw [used_get s N i h.size hi, hk, List.append_nil] at g2
    rw [g1]
    have hk2 : keys (putS s (c : Int) t n) = [] := hk
    rw [hk2, List.append_nil]
    have e : ((putS s (c : Int) t n).own :: (putS s (c : Int) t n).put).any (fun r => covers r i) = ((s.own :: s.put).any (fun r => covers r i) || covers ⟨(c : Int), (t.size : Int), AdM.sum t⟩ i) := by
      show (s.own :: (s.put ++ [(⟨(c : Int), (t.size : Int), AdM.sum t⟩ : Rf)])).any (fun r => covers r i) = _
      simp [Bool.or_assoc]
    rw [e, ← Bool.or_assoc]
    have g3 : (decide (i < 2) || (s.own :: s.put).any fun r => covers r i) = decide (i < c) := Option.some.inj g2
    rw [g3, covers_eq (c : Int) _ _ i n hpg, ← Bool.decide_or]
    exact congrArg some (decide_eq_decide.2 (by omega))
  refine ⟨h.size, h.down, h.budget, ?_, h.gen, h.own, h.held, ?_, ?_, ?_, ?_, Chn.snoc h.chn rfl hpg (by omega), hu, ?_, ?_, ?_⟩
  · show (s.d.soft ++ Blb.pgs t (c : Int) n).length ≤ _
    rw [List.length_append, Blb.pgs_length]
    have := h.soft
    omega
  · show s.put ++ [_] = _
    rw [h.pt]
  · rw [List.length_append, h.rl]; rfl
  · rw [List.length_append, h.tl]; rfl
  · have := h.c1
    omega
  · intro i r t' hr ht
    rcases Nat.lt_or_ge i j with hij | hij
    · rw [List.getElem?_append_left (by rw [h.rl]; exact hij)] at hr
      rw [List.getElem?_append_left (by rw [h.tl]; exact hij)] at ht
      obtain ⟨k, k1, k2, k3⟩ := h.txt i r t' hr ht
      exact ⟨k, k1.put k2, by omega, k3⟩
    · rw [List.getElem?_append_right (by rw [h.rl]; exact hij), h.rl] at hr
      rw [List.getElem?_append_right (by rw [h.tl]; exact hij), h.tl] at ht
      obtain ⟨e, he⟩ : ∃ e, i - j = e := ⟨_, rfl⟩
      rw [he] at hr ht
      cases e with
      | zero =>
        simp at hr ht
        subst hr ht
        exact ⟨n, Txt.new s.d t n c (by omega) (by rw [h.size]; omega) h1 (by omega) hp, by show (c : Int) + (n : Int) ≤ ((c + n : Nat) : Int); omega, by show (3 : Int) ≤ (c : Int); omega⟩
      | succ e => simp at hr
  · intro r hr
    rcases List.mem_append.1 hr with e | e
    · exact h.f2 r e
    · rw [List.mem_singleton] at e
      subst e
      exact ⟨hz.1, by show AdM.sum t ≤ 4294967295; omega⟩
  · show rd { s.d with soft := s.d.soft ++ Blb.pgs t (c : Int) n } 1 = _
    rw [Blb.rd_pgs, if_neg (by omega)]
    exact h.slot
theorem best_sw {N c j : Nat} {s : St} {rs : List Rf} {ts : List ByteArray} (h : PA N c j s rs ts) (t : ByteArray) (n : Nat) (hc : c ≤ 2048) (ht : t.size ≤ 16384) : bestOf (swM s (c : Int) t n).d 2 = ⟨2, (c : Int), (t.size : Int), AdM.sum t⟩ := by
  have hc3 := Chn.le h.chn
  have hz := Slt.sum_lt t
  have hz1 := Slt.sum_lt tE
  have hrt : (⟨2, (c : Int), (t.size : Int), AdM.sum t⟩ : Sl).Rt := ⟨by show (0 : Int) < 2; decide, by show (2 : Int) < 4294967296; decide, by show (0 : Int) ≤ (c : Int); omega, by show (c : Int) ≤ 2048; omega, by show (0 : Int) ≤ (t.size : Int); omega, by show (t.size : Int) ≤ 16384; omega, hz.1, hz.2⟩
  have hrt1 : sl1.Rt := ⟨by decide, by decide, by decide, by decide, by decide, by decide, hz1.1, hz1.2⟩
  have hsl : (⟨s.gen + 1, (c : Int), (t.size : Int), AdM.sum t⟩ : Sl) = ⟨2, (c : Int), (t.size : Int), AdM.sum t⟩ := by rw [h.gen]; rfl
  have e0 : rd (swM s (c : Int) t n).d 0 = (⟨2, (c : Int), (t.size : Int), AdM.sum t⟩ : Sl).lay := by
    show rd (switched _ (⟨s.gen + 1, (c : Int), (t.size : Int), AdM.sum t⟩ : Sl)) 0 = _
    rw [hsl, Slt.rd_switched, if_pos (by show (0 : Int) = 2 % 2; decide)]
  have e1 : rd (swM s (c : Int) t n).d 1 = sl1.lay := by
    show rd (switched { s.d with soft := s.d.soft ++ Blb.pgs t (c : Int) n } (⟨s.gen + 1, (c : Int), (t.size : Int), AdM.sum t⟩ : Sl)) 1 = _
    rw [hsl, Slt.rd_switched, if_neg (by show ¬ ((1 : Int) = 2 % 2); decide), Blb.rd_pgs, if_neg (by omega)]
    exact h.slot
  rw [Slt.bestOf_two, e0, e1, Slt.slotOf_self hrt, Slt.slotOf_self hrt1, Slt.pick_z (by show (0 : Int) < 2; decide)]
  unfold Slt.pick
  exact if_neg (by show ¬ ((2 : Int) < 1); decide)
end Go.Proofs.YtaodgnladjafoaaGreatDoor.Sto
