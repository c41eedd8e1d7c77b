/- Words that the proof uses. -/
import Derived.Test.YtaodgnladjafoaaGreatDoorStore14V
set_option linter.unusedVariables false
set_option linter.unusedSimpArgs false
namespace Go.Proofs.YtaodgnladjafoaaGreatDoor.Sto
open Go.RowKit Go.Proofs.YtaodgnladjafoaaGreatDoorW.PrintWords Go.Proofs.YtaodgnladjafoaaGreatDoorW.PrintLast Go.Proofs.YtaodgnladjafoaaGreatDoorW.PrintMore Go.Proofs.YtaodgnladjafoaaGreatDoor.Md Go.Proofs.YtaodgnladjafoaaGreatDoor.Mni Go.Proofs.YtaodgnladjafoaaGreatDoor.QStoreLasts
open Go.Proofs.YtaodgnladjafoaaGreatDoor.Dk (Dsk IsD Ft mayN rd stl bit Pg)
open Go.Proofs.YtaodgnladjafoaaGreatDoor.Slt (Sl switched flushed bestOf slotOf pick)
open Go.Proofs.YtaodgnladjafoaaGreatDoor.Err (Laid IsErr code_nil code_c Chain at_some at_nil)
variable {N : Nat} {s : St} {rs : List Rf} {ts : List ByteArray} {pt : List Rf} {fs : List ByteArray}
theorem G.start (N : Nat) (h8 : 8 ≤ N) (h2 : N ≤ 2048) : G N (sF N) [] [] [] [] := by
  have hz := Slt.sum_lt tE
  have hrt : (⟨0 + 1, 2, (tE.size : Int), AdM.sum tE⟩ : Sl).Rt := ⟨by decide, by decide, by decide, by decide, by decide, by decide, hz.1, hz.2⟩
  have hn := (Txt.new (d0 N) tE 1 2 (by decide) (by show ((2 : Nat) : Int) + ((1 : Nat) : Int) ≤ (N : Int); omega) (by decide) (by decide) (by decide)).sw (sl := ⟨0 + 1, 2, (tE.size : Int), AdM.sum tE⟩) (by decide)
  refine ⟨rfl, h8, h2, Nat.zero_le _, rfl, rfl, rfl, hrt, List.pairwise_singleton _ _, ?_, ?_, ⟨1, ?_⟩, fun i r t h1 => by simp at h1, fun i r t h1 => by simp at h1, fun x hx => (List.not_mem_nil hx).elim, fun r hr => (List.not_mem_nil hr).elim, fun r hr => (List.not_mem_nil hr).elim⟩
  · show Dk.upd (rd { d0 N with soft := (d0 N).soft ++ Blb.pgs tE 2 1 }) ((0 + 1) % 2) (⟨0 + 1, 2, (tE.size : Int), AdM.sum tE⟩ : Sl).lay ((0 + 1) % 2) = _
    unfold Dk.upd
    rw [if_pos rfl]
    rfl
  · show (slotOf (Dk.upd (rd { d0 N with soft := (d0 N).soft ++ Blb.pgs tE 2 1 }) ((0 + 1) % 2) (⟨0 + 1, 2, (tE.size : Int), AdM.sum tE⟩ : Sl).lay ((0 + 1 + 1) % 2))).g < 0 + 1
    unfold Dk.upd
    rw [if_neg (by decide), Blb.rd_pgs, if_neg (by decide)]
    have e : rd (d0 N) ((0 + 1 + 1) % 2) = Dk.pz := rfl
    rw [e, Slt.slotOf_pz]
    decide
  · have e : layM (withM []) = tE := empty_lay
    rw [e]
    exact hn.on rfl (fun _ _ => rfl)
theorem G.find (h : G N s rs ts pt fs) (n : Nat) (hn : 1 ≤ n) : (∃ a : Nat, SpM.find (Sto.used (withM rs) s) (n : Int) (Sto.used (withM rs) s).length 0 = ((a : Int), true) ∧ a + n ≤ N ∧ (∀ j, a ≤ j → j < a + n → (Sto.used (withM rs) s)[j]? = some false) ∧ ∀ b, b < a → ¬ ∀ j, b ≤ j → j < b + n → (Sto.used (withM rs) s)[j]? = some false) ∨ (SpM.find (Sto.used (withM rs) s) (n : Int) (Sto.used (withM rs) s).length 0 = (0, false) ∧ ∀ b, b + n ≤ N → ¬ ∀ j, b ≤ j → j < b + n → (Sto.used (withM rs) s)[j]? = some false) := by
  have hl := h.len
  rcases find_at (Sto.used (withM rs) s) n hn with ⟨a, h1, _, h3, h4, h5⟩ | ⟨h1, _, h3⟩
  · exact .inl ⟨a, h1, by omega, h4, h5⟩
  · exact .inr ⟨h1, fun b hb => h3 b (by omega)⟩
def Und (c : Nat) (s : St) (l : List Rf) : Prop := ∀ r ∈ s.own :: l, r.f0 + pagesV r.f1 ≤ (c : Int)
theorem G.room (h : G N s rs ts pt fs) (hk : s.held = []) {c : Nat} (hc : Und c s (rs ++ pt)) (h2 : 2 ≤ c) (n : Nat) (hn : 1 ≤ n) (hN : c + n ≤ N) : ∃ a : Nat, SpM.find (Sto.used (withM rs) s) (n : Int) (Sto.used (withM rs) s).length 0 = ((a : Int), true) ∧ a ≤ c ∧ a + n ≤ N ∧ ∀ j, a ≤ j → j < a + n → (Sto.used (withM rs) s)[j]? = some false := by
  have hno : ∀ (l : List Rf) (j : Nat), (∀ r ∈ l, r.f0 + pagesV r.f1 ≤ (c : Int)) → c ≤ j → l.any (fun r => covers r j) = false := fun l j hl hj => by
    rw [List.any_eq_false]
    intro r hr
    have := hl r hr
    rw [covers_cov, Bool.not_eq_true]
    exact decide_eq_false (fun q => by have := q.2; omega)
  have hfree : ∀ j, c ≤ j → j < c + n → (Sto.used (withM rs) s)[j]? = some false := fun j h1 h3 => by
    have hkk : Sto.keys s = [] := by unfold Sto.keys; rw [hk]; rfl
    rw [h.used j (by omega), hkk, List.append_nil, hno rs j (fun r hr => hc r (List.mem_cons_of_mem _ (List.mem_append_left _ hr))) h1, hno (s.own :: s.put) j (fun r hr => by
      rcases List.mem_cons.1 hr with e | e
      · rw [e]; exact hc _ List.mem_cons_self
      · exact hc r (List.mem_cons_of_mem _ (List.mem_append_right _ (by rw [← h.put]; exact e)))) h1, decide_eq_false (by omega)]
    rfl
  rcases h.find n hn with ⟨a, h1, h3, h4, h5⟩ | ⟨_, h3⟩
  · refine ⟨a, h1, ?_, h3, h4⟩
    rcases Nat.lt_or_ge c a with q | q
    · exact absurd hfree (h5 c q)
    · exact q
  · exact absurd hfree (h3 c hN)
theorem und_more {c a n : Nat} {l : List Rf} {t : ByteArray} (hc : Und c s l) (ha : a ≤ c) (h1 : 1 ≤ t.size) (h2 : t.size ≤ 16384) (hp : (t.size + 63) / 64 = n) {s' : St} (ho : s'.own = s.own) : Und (c + n) s' (l ++ [⟨(a : Int), (t.size : Int), AdM.sum t⟩]) := by
  have e : pagesV (t.size : Int) = (((t.size + 63) / 64 : Nat) : Int) := Blb.pages_of t h1 h2
  rw [hp] at e
  intro r hr
  rcases List.mem_cons.1 hr with q | q
  · have := hc _ List.mem_cons_self
    rw [q, ho]
    omega
  · rcases List.mem_append.1 q with q | q
    · have := hc r (List.mem_cons_of_mem _ q)
      omega
    · rw [List.mem_singleton] at q
      subst q
      show (a : Int) + pagesV (t.size : Int) ≤ _
      rw [e]
      omega
theorem und_sw {c a n : Nat} {l l2 : List Rf} {t : ByteArray} (hc : Und c s l) (hs : ∀ r ∈ l2, r ∈ l) (ha : a ≤ c) (h1 : 1 ≤ t.size) (h2 : t.size ≤ 16384) (hp : (t.size + 63) / 64 = n) : Und (c + n) (swB s (a : Int) t n) l2 := by
  have e : pagesV (t.size : Int) = (((t.size + 63) / 64 : Nat) : Int) := Blb.pages_of t h1 h2
  rw [hp] at e
  intro r hr
  rcases List.mem_cons.1 hr with q | q
  · subst q
    show (a : Int) + pagesV (t.size : Int) ≤ _
    rw [e]
    omega
  · have := hc r (List.mem_cons_of_mem _ (hs r q))
    omega
theorem G.man (h : G N s rs ts pt fs) {rs2 : List Rf} (hsub : ∀ r ∈ rs2, r ∈ rs ++ pt) (hap : rs2.Pairwise Ap) (h8 : rs2.length ≤ 8) : rightM (withM rs2) (N : Int) = true ∧ Fits (withM rs2) ∧ 1 ≤ (layM (withM rs2)).size ∧ (layM (withM rs2)).size ≤ 384 := by
  obtain ⟨out, h1, _⟩ := marks_ap (N := N) (rs := rs2) (fun r hr => by
    obtain ⟨t, n, hn⟩ := h.mem (List.mem_cons_of_mem _ (hsub r hr))
    rw [← h.size]
    exact hn.right) hap (fun r hr => by
    obtain ⟨t, n, hn⟩ := h.mem (List.mem_cons_of_mem _ (hsub r hr))
    exact hn.x0)
  have hr := right_marks h1 (by have := h.n8; omega) h.nn h8
  have hf := (lim_right hr (fun r q => h.sums r (hsub r q))).fits
  exact ⟨hr, hf, lay_pos _, lay_size h8 hf⟩
theorem may_of {d : Dsk} {i : Int} (h : d.down = false) (h0 : 0 ≤ i) (h1 : i < d.size) : mayN d i = 0 := by
  unfold mayN
  rw [h, if_neg (by decide), if_neg (by omega)]
theorem open_g (w : World) (R M : Nat) (v : Value) (d : Dsk) (g : Int) (u : Rf) (h : Hid (IsD w R M v d)) (hG : G N (sO d ⟨g, u.f0, u.f1, u.f2⟩) rs ts [] []) (hdn : d.down = false) (hl : d.soft.length ≤ 9000) :
    Calls Tryz.prog 14 #[.pointer (some ⟨R, 0, none⟩)] w fun e w' => ∃ Z H o, w.heap.size ≤ Z ∧ w.heap.size ≤ H ∧ e = .returned (.tuple #[.pointer (some ⟨Z, 0, none⟩), .nilIface]) ∧ IsS w' ⟨Z, R, M, H, v, .slice none 0 0⟩ o (withM rs) (sO d ⟨g, u.f0, u.f1, u.f2⟩) ∧ Below w.heap.size w w' := by
  obtain ⟨n, hn⟩ := hG.ownT
  have hsz : d.size = (N : Int) := hG.size
  have h8 := hG.n8
  have h2 := hG.nn
  have hg0 : 0 < g := hG.rt.g0
  have hn : Txt d ⟨u.f0, u.f1, u.f2⟩ (layM (withM rs)) n := hn
  have hx0 : 2 ≤ u.f0 := hn.x0
  have hx1 : u.f0 + (n : Int) ≤ d.size := hn.x1
  have hf1 : u.f1 = ((layM (withM rs)).size : Int) := hn.len
  have hy : u.f1 ≤ 16384 := hG.rt.y1
  exact Open_ok w R M v d g u.f0 u.f1 u.f2 (layM (withM rs)) (withM rs) n h (by omega) (by omega) (may_of hdn (by decide) (by omega)) (may_of hdn (by decide) (by omega)) (Lib.hid hG.best) hg0 (Lib.hid hdn) hl (Lib.hid hn.pg) hn.n1 (by omega) hx1 (Lib.hid hn.str) hn.sum (by omega) (Lib.hid (by rw [hsz]; exact read_lay hG.right (fun r hr => hG.sums r (by rw [List.append_nil]; exact hr))))
theorem litR2 (a b c x y z : Int) (W : World) : (Instr.buildSlice 33 2 #[(0, .agg #[.int .i64 a, .int .i64 b, .int .u32 c]), (1, .agg #[.int .i64 x, .int .i64 y, .int .u32 z])]).run Tryz.prog W = .ok (.slice (some ⟨W.heap.size, 0, none⟩) 2 2) (W.alloc (.cells #[.int .i64 a, .int .i64 b, .int .u32 c, .int .i64 x, .int .i64 y, .int .u32 z] 36 (0, 0))) := by kernel_rfl
theorem exec_litR2 {r : Operand → Value} {o : Oper} {x y : Operand} {p q : Rf} (ho : o.op = .buildSlice 33 2 #[(0, x), (1, y)]) (hx : r x = .agg (ra p)) (hy : r y = .agg (ra q)) (W : World) : (execOp r o).run Tryz.prog W = .ok (.value (.slice (some ⟨W.heap.size, 0, none⟩) 2 2)) (W.alloc (.cells #[.int .i64 p.f0, .int .i64 p.f1, .int .u32 p.f2, .int .i64 q.f0, .int .i64 q.f1, .int .u32 q.f2] 36 (0, 0))) := by
  have h2 := litR2 p.f0 p.f1 p.f2 q.f0 q.f1 q.f2 W
  unfold execOp
  simp only [ho]
  have e : (#[((0 : Nat), x), (1, y)] : Array (Nat × Operand)).map (fun (y : Nat × Operand) => (y.1, r y.2)) = #[(0, .agg #[.int .i64 p.f0, .int .i64 p.f1, .int .u32 p.f2]), (1, .agg #[.int .i64 q.f0, .int .i64 q.f1, .int .u32 q.f2])] := by simp [hx, hy, ra]
  show (Sem.run _ (do let v ← Instr.buildSlice _ 2 (Array.map _ _); _) _) = _
  rw [e, Sem.run_bind, h2]
  rfl
theorem R_two {w : World} {g : Nat} {p q : Rf} (h : w.heap[g]? = some (Obj.cells #[.int .i64 p.f0, .int .i64 p.f1, .int .u32 p.f2, .int .i64 q.f0, .int .i64 q.f1, .int .u32 q.f2] 36 (0, 0))) : rk.R 36 w 0 (fun _ => True) (.slice (some ⟨g, 0, none⟩) 2 2) [p, q] :=
  ⟨fun _ _ => trivial, [.int .i64 p.f0, .int .i64 p.f1, .int .u32 p.f2, .int .i64 q.f0, .int .i64 q.f1, .int .u32 q.f2], ⟨rfl, .inr ⟨g, 2, #[.int .i64 p.f0, .int .i64 p.f1, .int .u32 p.f2, .int .i64 q.f0, .int .i64 q.f1, .int .u32 q.f2], rfl, Nat.zero_le _, h, Nat.le_refl _, by decide, rfl, rfl⟩⟩, Reps.snoc (Reps.snoc (Reps.none _ _) (k36_mkM _ _ _ _) rfl) (k36_mkM _ _ _ _) rfl⟩
theorem isErr_ft {w w' : World} {R M : Nat} {v u : Value} {d : Dsk} {n : Int} (h : IsErr w u n) (hd : IsD w R M v d) (k : Mod (Ft R M v) w w') : IsErr w' u n :=
  Dk.isErr_mod h k (fun b cs hb hf => by
    rcases hf with rfl | rfl | e
    · rw [hd.blk] at hb; simp at hb
    · obtain ⟨es, ck, g, _⟩ := hd.map
      rw [g] at hb; simp at hb
    · obtain ⟨_, inner, ho, _⟩ := hd.soft
      obtain ⟨cells, hc⟩ := own_typed ho b e
      rw [hc] at hb; simp at hb)
end Go.Proofs.YtaodgnladjafoaaGreatDoor.Sto
