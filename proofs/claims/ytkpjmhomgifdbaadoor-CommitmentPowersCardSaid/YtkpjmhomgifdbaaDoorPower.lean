/- The program's Power is base^exponent modulo the prime for a base below the prime and an exponent that is not negative, and 0 otherwise. -/
import Derived.Test.YtkpjmhomgifdbaaDoorSq
namespace Go.Proofs.YtkpjmhomgifdbaaDoor
open Go Go.RowKit Go.Shelf

attribute [local go_sem] Oper.semAt_some

theorem cell_of_box_l {W : World} {B : Nat} {v : Value} {t : TypeId} (h : W.heap[B]? = some (.cells #[v] t (0, 0))) : W.cell? ⟨B, 0, none⟩ = some v ∧ W.frozen? ⟨B, 0, none⟩ = false := by
  constructor <;> simp [World.cell?, World.frozen?, h]
theorem cell_new_l (W : World) (v : Value) (t : TypeId) : (W.alloc (.cells #[v] t)).cell? ⟨W.heap.size, 0, none⟩ = some v ∧ (W.alloc (.cells #[v] t)).frozen? ⟨W.heap.size, 0, none⟩ = false :=
  cell_of_box_l (World.alloc_heap_new W _)
theorem cell_alloc_l {W : World} {a : Addr} {v : Value} (o : Obj) (h : W.cell? a = some v) : (W.alloc o).cell? a = some v := cell_kept h (World.grownBy_alloc W o none) (fun r e => by cases e)
theorem frozen_alloc_l {W : World} {a : Addr} {v : Value} (o : Obj) (h : W.cell? a = some v) (hf : W.frozen? a = false) : (W.alloc o).frozen? a = false := (frozen_kept h (World.grownBy_alloc W o none) (fun r e => by cases e)).trans hf

theorem KpC_t {Bb Be : Nat} {A B C : World} (h : KpC Bb Be A B) (k : KpC Bb Be B C) : KpC Bb Be A C := fun b hb => ⟨(k b hb).1.trans (h b hb).1, (k b hb).2.trans (h b hb).2⟩
theorem KpC_b {Bb Be B : Nat} (h1 : Bb < B) (h2 : Be < B) (W : World) (l : Nat) (o o' : Obj) (hl : B ≤ l) (_ : W.heap[l]? = some o) (_ : o.isCells = false) (_ : o.isWalk = false) : KpC Bb Be W (W.putObj l o') := by
  have hb := belowK_b (n₀ := l) (w := W)
  intro b hb
  have hne : b ≠ l := by rcases hb with rfl | rfl <;> omega
  have : (W.putObj l o').heap[b]? = W.heap[b]? := World.putObj_heap_other hne
  exact ⟨by simp only [World.cell?, this], by simp only [World.frozen?, this]⟩
theorem KpC_set {Bb Be o : Nat} (h1 : o ≠ Bb) (h2 : o ≠ Be) (W : World) (v : Value) : KpC Bb Be W (W.setCell ⟨o, 0, none⟩ v) := fun b hb => by
  have hne : o ≠ b := by rcases hb with rfl | rfl <;> assumption
  exact ⟨World.cell?_setCell_other _ _ _ _ (fun h => hne (congrArg Addr.block h)), World.frozen?_setCell ..⟩

theorem fld_small (pre : List X) : Small (fld 1 pre) := fld_lt 1 (by decide) pre
theorem fld_wrap (pre : List X) (x : Nat) (h : Small x) : wrap64 (((fld 1 pre : Nat) : Int) * (x : Int)) = ((fld 1 pre : Nat) : Int) * (x : Int) := by
  have h0 := fld_small pre
  generalize fld 1 pre = y at *
  unfold Small M.P at h h0
  have h1 : y * x ≤ 2147483579 * 2147483579 := Nat.mul_le_mul (by omega) (by omega)
  have h2 : ((y : Int) * (x : Int)) = ((y * x : Nat) : Int) := by simp
  rw [h2]; unfold wrap64; omega
theorem fld_mod (pre : List X) (x : Nat) : Int.tmod (((fld 1 pre : Nat) : Int) * (x : Int)) 2147483579 = ((fld 1 pre * x % M.P : Nat) : Int) := by
  rw [show (((fld 1 pre : Nat) : Int) * (x : Int)) = ((fld 1 pre * x : Nat) : Int) by simp, Int.tmod_eq_emod_of_nonneg (by omega)]
  exact (Int.natCast_emod _ _).symm
theorem fld_emod (pre : List X) (x : Nat) : (((fld 1 pre : Nat) : Int) * (x : Int)) % 2147483579 = ((fld 1 pre * x % M.P : Nat) : Int) := by
  rw [show (((fld 1 pre : Nat) : Int) * (x : Int)) = ((fld 1 pre * x : Nat) : Int) by simp]
  exact (Int.natCast_emod _ _).symm

set_option maxRecDepth 100000 in
set_option maxHeartbeats 2000000 in
theorem Power_in (F : Fence) (n : Nat) (h16 : F.fn 16) (h22 : F.fn 22) (h23 : F.fn 23) (hro : F.round = none) (hn : 3 ≤ n) (b : Rs) (e : Nat) (h63 : Hid (e < 2 ^ 63)) (w : World)
   (c1 : decide ((b.1 : Int) < 0) = false) (c2 : decide ((2147483579 : Int) ≤ (b.1 : Int)) = false) (c3 : decide ((e : Int) < 0) = false) :
    CallsIn F n Tryd.prog 16 #[.int .i64 (b.1 : Int), .int .i64 (e : Int)] w fun en W' => en = .returned (.int .i64 ((M.pw b.1 e : Nat) : Int)) ∧ Below w.heap.size w W' := by
  have h1 : 1 ≤ n := by omega
  refine callsIn_of_wp_marks Tryd.func16 rfl h16 ?_ hro
  simp only [Tryd.ntmps16, List.size_toArray, List.length_cons, List.length_nil, Nat.reduceAdd, Nat.reduceSub, Array.replicate_succ, Array.replicate_zero, List.push_toArray, List.append_toArray, List.nil_append, List.cons_append]
  gi_wp2_with (gi_at_call 22; refine (squares_in F (n - 1) h22 hro _ _ _).mono ?_; rintro e w' ⟨rfl, rfl⟩)
  have k0 := cell_new_l w (.int .i64 1) 3
  have k1 := cell_new_l (w.alloc (.cells #[.int .i64 1] 3)) (.int .i64 (b.1 : Int)) 3
  have k2 := cell_new_l ((w.alloc (.cells #[.int .i64 1] 3)).alloc (.cells #[.int .i64 (b.1 : Int)] 3)) (.int .i64 (e : Int)) 3
  simp only [World.size_alloc] at k1 k2
  have k0' := cell_alloc_l (.cells #[.int .i64 (e : Int)] 3) (cell_alloc_l (.cells #[.int .i64 (b.1 : Int)] 3) k0.1)
  have k0f := frozen_alloc_l (.cells #[.int .i64 (e : Int)] 3) (cell_alloc_l (.cells #[.int .i64 (b.1 : Int)] 3) k0.1) (frozen_alloc_l (.cells #[.int .i64 (b.1 : Int)] 3) k0.1 k0.2)
  have k1' := cell_alloc_l (.cells #[.int .i64 (e : Int)] 3) k1.1
  have k1f := frozen_alloc_l (.cells #[.int .i64 (e : Int)] 3) k1.1 k1.2
  have hB0 : Below w.heap.size w (((w.alloc (.cells #[.int .i64 1] 3)).alloc (.cells #[.int .i64 (b.1 : Int)] 3)).alloc (.cells #[.int .i64 (e : Int)] 3)) := (((Below.refl _ w).alloc (Nat.le_refl _) _).alloc (by simp) _).alloc (by simp; omega) _
  have hsz : (((w.alloc (.cells #[.int .i64 1] 3)).alloc (.cells #[.int .i64 (b.1 : Int)] 3)).alloc (.cells #[.int .i64 (e : Int)] 3)).heap.size = w.heap.size + 1 + 1 + 1 := by simp
  generalize (((w.alloc (.cells #[.int .i64 1] 3)).alloc (.cells #[.int .i64 (b.1 : Int)] 3)).alloc (.cells #[.int .i64 (e : Int)] 3)) = W0 at *
  refine wpIn_rangeFunc_ownT hro h1 (gf := 23) (lb := #[.pointer (some ⟨w.heap.size + 1 + 1, 0, none⟩), .pointer (some ⟨w.heap.size + 1, 0, none⟩)]) rfl h23 (enters_of Tryd.func23 (by kernel_rfl) rfl)
    (T := fun x => x = w.heap.size + 1 ∨ x = w.heap.size + 1 + 1) (fun x hx => by rw [hsz]; rcases hx with rfl | rfl <;> omega)
    (squares_stops F (n - 1) h23 hro (by omega) (w.heap.size + 1) (w.heap.size + 1 + 1) (by omega) b e h63 W0 (by omega) (by omega) k1' k2.1 k1f k2.2)
    KpC_t (KpC_b (by omega) (by omega)) (Below.refl _ _) (fun _ => rfl)
    (fun pre W => (W.cell? ⟨w.heap.size, 0, none⟩ = some (.int .i64 ((fld 1 pre : Nat) : Int)) ∧ W.frozen? ⟨w.heap.size, 0, none⟩ = false) ∧ Below w.heap.size w W)
    (fun _ _ _ => False)
    (OwnFrom.and (Own.from (fun s A B row hs hg hr => ⟨cell_kept hs.1 hg hr, (frozen_kept hs.1 hg hr).trans hs.2⟩) _) (ownFrom_below (Nat.le_refl _) (by omega)))
    (fun _ _ _ _ _ hs _ _ => hs)
    (fun s W x v hx hs => by
      have hne : x ≠ w.heap.size := by rcases hx with rfl | rfl <;> omega
      exact ⟨⟨(World.cell?_setCell_other _ _ _ _ (fun h => hne (congrArg Addr.block h))).trans hs.1.1, by rw [World.frozen?_setCell]; exact hs.1.2⟩, hs.2.setCell (p := ⟨x, 0, none⟩) (by show w.heap.size ≤ x; rcases hx with rfl | rfl <;> omega) _⟩)
    ⟨⟨k0', k0f⟩, hB0⟩
    (fun x => { tmps := #[.int .i64 (b.1 : Int), .int .i64 (e : Int), undef, undef, .int .i64 0, .pointer (some ⟨w.heap.size, 0, none⟩), .int .i64 (x.1.1 : Int), .bool x.2, .int .i64 (b.1 : Int), .bool false, .bool false, .int .i64 (b.1 : Int), .bool false, .bool false, .bool false, .int .i64 (e : Int), .bool false, .bool false, .int .i64 (b.1 : Int), .int .i64 (e : Int),
          .func (.func 23) #[] #[.pointer (some ⟨w.heap.size + 1 + 1, 0, none⟩), .pointer (some ⟨w.heap.size + 1, 0, none⟩)], .int .i64 (x.1.1 : Int), .bool x.2, undef, undef, undef, undef, undef, undef], defers := [] }) ?assign ?body ?done ?stop
  case assign =>
    intro l x W K hK
    dsimp only [encX]
    gi_wp2
    exact hK
  case body =>
    rintro l pre ⟨⟨x, hx⟩, s⟩ W ⟨⟨hc, hf⟩, hB⟩ _
    cases s
    · gi_wp2
      exact ⟨KeepsFrom.refl _ _, fun _ _ => ⟨rfl, rfl⟩, ⟨by rw [fld_snoc, if_neg (by simp)]; exact hc, hf⟩, hB⟩
    · have hm := fld_wrap pre x hx
      have hmm := fld_mod pre x
      gi_wp2
      rw [fld_emod]
      exact ⟨(KeepsOthers.setCell _ _ _).from _, KpC_set (by omega) (by omega) _ _, ⟨by rw [fld_snoc, if_pos rfl]; exact World.cell?_setCell_same' _ _ _ (by rw [hc]; rfl), by rw [World.frozen?_setCell]; exact hf⟩, hB.setCell (p := ⟨w.heap.size, 0, none⟩) (Nat.le_refl _) _⟩
  case done =>
    rintro D ys W hD rfl ⟨⟨hc, hf⟩, hB⟩ hK
    rw [fld_sqs e e (Nat.le_refl _) 1 b (by decide), Nat.one_mul] at hc
    gi_wp2
    refine ⟨by simp, .inl ⟨_, _, rfl, run_takeDeferred hK, ?_⟩⟩
    exact ⟨_, results_tmp rfl _ _ _, rfl, hB.trans (belowK_b (w := w) (Nat.le_refl _) W D _ _ (by omega) hK rfl rfl)⟩
  case stop =>
    rintro D c pre W _ _ h _
    exact h.elim

end Go.Proofs.YtkpjmhomgifdbaaDoor
