/- Pair. -/
import Derived.Test.YtpbamfoaoeicgaaWalk4
import Derived.Test.YtpbamfoaoeicgaaUse
set_option linter.unusedVariables false
set_option linter.unusedSimpArgs false
namespace Go.Proofs.Ytpbamfoaoeicgaa.PAll
open Go Go.RowKit Go.Proofs.YtpbamfoaoeicgaaW.PrintWords Go.Proofs.YtpbamfoaoeicgaaW.PrintLast Go.Proofs.YtpbamfoaoeicgaaW.PrintMore

theorem lies_start (w w3 w4 : World) (l0 : List S48) (l1 : List S45) (al : Option Addr) (cl : Nat) (A1 : Option Addr) (c1 B : Nat) (hu : Usable l0 l1) (hr1 : Kd.C k45 w A1 l1.length l1) (hm : Kd.C k68 w3 al (marksOf l0).length (marksOf l0)) (hml : (marksOf l0).length ≤ 48)
    (cL : w4.cell? ⟨w3.heap.size, 0, none⟩ = some (.slice al (marksOf l0).length cl)) (cP : w4.cell? ⟨w.heap.size, 0, none⟩ = some (.slice A1 l1.length c1)) (b4 : Below w.heap.size w w4) (b34 : Below w3.heap.size w3 w4)
    (hB : B < w4.heap.size) (hf : Filled B (marksOf l0) l1 (fun _ _ => True) w4) (t1 : w.heap.size < w4.heap.size) (t2 : w3.heap.size < w4.heap.size) (w5 : World)
    (h5 : w5 = (((w4.alloc (Obj.cells #[Value.pointer (some ⟨B, 0, none⟩)] 62)).alloc (Obj.cells #[Value.slice none 0 0] 24)).alloc (Obj.cells #[clo w3.heap.size w.heap.size w4.heap.size (w4.heap.size + 1)] 64))) :
    Lies w5 (marksOf l0) l1 al cl A1 c1 w3.heap.size w.heap.size w4.heap.size (w4.heap.size + 1) B ∧ Clo w5 w3.heap.size w.heap.size w4.heap.size (w4.heap.size + 1) w5 (.slice none 0 0) [] ∧ Below w.heap.size w w5 := by
  have bo : Below w4.heap.size w4 w5 := by
    subst h5
    exact (((Below.refl _ _).alloc (Nat.le_refl _) _).alloc (by simp) _).alloc (by simp; omega) _
  have hs : w5.heap.size = w4.heap.size + 3 := by subst h5; simp
  have hT : Boxed w5 w4.heap.size 62 (.pointer (some ⟨B, 0, none⟩)) := by
    subst h5; exact ((Boxed.new _ _ _).alloc _).alloc _
  have hO : Boxed w5 (w4.heap.size + 1) 24 (.slice none 0 0) := by
    subst h5
    have := (Boxed.new (w4.alloc (Obj.cells #[Value.pointer (some ⟨B, 0, none⟩)] 62)) 24 (.slice none 0 0)).alloc (Obj.cells #[clo w3.heap.size w.heap.size w4.heap.size (w4.heap.size + 1)] 64)
    simpa using this
  have hK : Boxed w5 (w4.heap.size + 1 + 1) 64 (clo w3.heap.size w.heap.size w4.heap.size (w4.heap.size + 1)) := by
    subst h5
    have := Boxed.new ((w4.alloc (Obj.cells #[Value.pointer (some ⟨B, 0, none⟩)] 62)).alloc (Obj.cells #[Value.slice none 0 0] 24)) 64 (clo w3.heap.size w.heap.size w4.heap.size (w4.heap.size + 1))
    simpa using this
  refine ⟨⟨by omega, by omega, by omega, by omega, by omega, (bo.cell (p := ⟨w3.heap.size, 0, none⟩) t2).trans cL, (bo.cell (p := ⟨w.heap.size, 0, none⟩) t1).trans cP, hT.cell, ?_, ?_, hf.of_below hB bo, near_usable hu, hml, hu.2.1⟩, ⟨Below.refl _ _, by omega, hO, hK, World.ownsRow_nil _ _ _ _⟩, b4.trans (bo.mono (by omega))⟩
  · intro W hW
    exact Kd.C_below hm ((b34.trans (bo.mono (by omega))).trans (hW.mono (by omega)))
  · intro W hW
    exact Kd.C_below hr1 ((b4.trans (bo.mono (by omega))).trans (hW.mono (by omega)))
theorem ownsRow_mono {w : World} {b b' : Nat} {e : TypeId} {size : Nat} {v : Value} {n : Nat} {xs : List Value} (h : w.ownsRow b e size v n xs) (hb : b' ≤ b) : w.ownsRow b' e size v n xs := by
  refine ⟨h.1, ?_⟩
  rcases h.2 with hr | ⟨g, cap, cur, e, hg, hr⟩
  · exact .inl hr
  · exact .inr ⟨g, cap, cur, e, by omega, hr⟩

set_option maxRecDepth 100000 in
set_option maxHeartbeats 4000000 in
theorem pair_walk (A0 : Option Addr) (c0 : Nat) (l0 : List (S48)) (A1 : Option Addr) (c1 : Nat) (l1 : List (S45)) (w : World) (hr0 : Kd.C k48 w A0 l0.length l0) (hc0 : l0.length ≤ c0) (hr1 : Kd.C k45 w A1 l1.length l1) (hc1 : l1.length ≤ c1) (hu : Usable l0 l1) :
    Calls Try.prog 13 #[.slice A0 l0.length c0, .slice A1 l1.length c1] w fun e w' => ∃ v0_ : Value, e = .returned (.tuple #[v0_, .int .i64 (tab (marksOf l0) l1 0 0), .int .i64 0]) ∧ w'.ownsRow w.heap.size 57 3 v0_ (wk (marksOf l0) l1 0 0).length (flat57 (wk (marksOf l0) l1 0 0)) ∧ Below w.heap.size w w' := by
  have HR0 := Lib.hid hr0
  have HR1 := Lib.hid hr1
  have HU := Lib.hid hu
  clear hr0 hr1 hu
  go_enter Try.func13, Try.ntmps13
  go_wp2_with (fail)
  obtain ⟨k1, hk1⟩ := check_f l0 l1 HU.out
  obtain ⟨k2, hk2⟩ := marks_f l0 (by have := HU.out.1; omega)
  have b0 : Below w.heap.size w (w.alloc (Obj.cells #[Value.slice A1 l1.length c1] 23)) := (Below.refl _ _).alloc (Nat.le_refl _) _
  refine (punches_check.calls k1 _ _ _ _ _ _ _ _ (Kd.C_below HR0.out b0) hc0 (Kd.C_below HR1.out b0) hc1 hk1).mono ?_
  rintro e w2 ⟨rfl, b1⟩
  have cP := (b1.cell (p := ⟨w.heap.size, 0, none⟩) (by simp)).trans (Boxed.new w 23 _).cell
  have B1 := Lib.hid (b0.trans (b1.mono (by simp)))
  have S1 := Lib.hid (show w.heap.size < w2.heap.size by have := b1.size; simp at this; omega)
  clear b0 b1
  go_wp2_with (fail)
  refine (punches_marks.calls k2 _ _ _ _ _ (Kd.C_below HR0.out B1.out) hc0 hk2).mono ?_
  rintro e w3 ⟨v0, rfl, hm, b2⟩
  have cP2 := (b2.cell (p := ⟨w.heap.size, 0, none⟩) S1.out).trans cP
  have B2 := Lib.hid (B1.out.trans (b2.mono B1.out.size))
  have S2 := Lib.hid (Nat.lt_of_lt_of_le S1.out b2.size)
  clear cP b2
  obtain ⟨al, cl, rfl⟩ := Kd.R_slice hm
  have HM := Lib.hid (Kd.R_reads' hm).2.2
  clear hm
  have s2 := S2.out
  have s2' : w.heap.size ≠ w3.heap.size := by have := S2.out; omega
  go_wp2_with (fail)
  have b3 : Below w3.heap.size w3 (w3.alloc (Obj.cells #[Value.slice al (marksOf l0).length cl] 60)) := (Below.refl _ _).alloc (Nat.le_refl _) _
  have b3' : Below w.heap.size w (w3.alloc (Obj.cells #[Value.slice al (marksOf l0).length cl] 60)) := B2.out.trans (b3.mono B2.out.size)
  have hml : (marksOf l0).length ≤ 48 := by have := HU.out.1; unfold marksOf; rw [mkl_length]; omega
  refine (fill_calls al cl (marksOf l0) A1 c1 l1 _ (Kd.C_below HM.out b3) (Kd.C_below HR1.out b3') hml HU.out.2.1 (near_usable HU.out)).mono ?_
  rintro e w4 ⟨rfl, hfill, hlt4, b4⟩
  have hsz : (w3.alloc (Obj.cells #[Value.slice al (marksOf l0).length cl] 60)).heap.size = w3.heap.size + 1 := by simp
  rw [hsz] at hfill hlt4 b4 ⊢
  have cL4 := (b4.cell (p := ⟨w3.heap.size, 0, none⟩) (by simp)).trans (Boxed.new w3 60 _).cell
  have cP4 := (b4.cell (p := ⟨w.heap.size, 0, none⟩) (by simp; omega)).trans ((b3.cell (p := ⟨w.heap.size, 0, none⟩) s2).trans cP2)
  have B4 := Lib.hid (b3'.trans (b4.mono (by have := B2.out.size; omega)))
  have B34 := Lib.hid (b3.trans (b4.mono (by omega)))
  have HF := Lib.hid hfill
  clear b3 b3' hsz hfill b4 cP2 s2' S2 B1 B2 S1 hk1 hk2
  generalize hB : w3.heap.size + 1 = B at *
  have HB := Lib.hid hB
  clear hB
  have t1 : w.heap.size < w4.heap.size := by have := HB.out; omega
  have t2 : w3.heap.size < w4.heap.size := by have := HB.out; omega
  clear s2
  have hsf := fun (a : Addr) (c : Array Value) (w : World) => run_store Try.prog w a (.func (.func 27) #[] c) .plain rfl
  go_wp2_with (fail)
  generalize h5 : ((w4.alloc (Obj.cells #[Value.pointer (some ⟨B, 0, none⟩)] 62)).alloc (Obj.cells #[Value.slice none 0 0] 24)).alloc (Obj.cells #[Value.func (Fn.func 27) #[] #[Value.pointer (some ⟨w3.heap.size, 0, none⟩), Value.pointer (some ⟨w.heap.size, 0, none⟩), Value.pointer (some ⟨w4.heap.size, 0, none⟩), Value.pointer (some ⟨w4.heap.size + 1, 0, none⟩), Value.pointer (some ⟨w4.heap.size + 1 + 1, 0, none⟩)]] 64) = w5
  obtain ⟨hL, hC, b5⟩ := lies_start w w3 w4 l0 l1 al cl A1 c1 B HU.out HR1.out HM.out hml cL4 cP4 B4.out B34.out hlt4 HF.out t1 t2 w5 h5.symm
  clear h5
  refine (walk_all _ _ _ _ _ _ _ _ _ _ _ _ hL _ 0 0 w5 _ [] (Nat.le_refl _) (Nat.zero_le _) (Nat.zero_le _) (by simp) hC).mono ?_
  rintro e w6 ⟨rfl, v', hC6⟩
  have cO6 := hC6.o.cell
  have cT6 := (hC6.below.cell (p := ⟨w4.heap.size, 0, none⟩) hL.hT).trans hL.t
  have cB6 := (hC6.below.cell (p := ⟨B, 0 * 61 + 0, none⟩) hL.hB).trans (hL.fill.2.2 0 0 (Nat.zero_le _) (Nat.zero_le _) trivial)
  simp only [Nat.zero_mul, Nat.zero_add] at cB6
  have hrow := Lib.hid (ownsRow_mono (b' := w.heap.size) hC6.row (by omega))
  have b6 := Lib.hid (b5.trans (hC6.below.mono (by omega)))
  clear hC6 hL hC b5 hsf cL4 cP4
  go_wp2_with (fail)
  go_quiet (fail)
  go_wp2
  first | go_ret3 | (refine bodyPost_ret (results_list (rs := [.tmp 4, .tmp 5, .tmp 6]) rfl (by simp) (.tmp rfl (.tmp rfl (.tmp rfl .nil)))) rfl ?_)
  exact ⟨v', rfl, hrow.out, pw_below_drewN b6.out _⟩
end Go.Proofs.Ytpbamfoaoeicgaa.PAll
