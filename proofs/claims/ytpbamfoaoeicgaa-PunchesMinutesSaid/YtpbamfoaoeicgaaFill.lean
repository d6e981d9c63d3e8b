/- The program's table of least costs holds the least costs. -/
import Derived.Test.YtpbamfoaoeicgaaPAllx2
import Derived.Test.YtpbamfoaoeicgaaEd
import Derived.Lib.Hide
set_option linter.unusedVariables false
set_option linter.unusedSimpArgs false
namespace Go.Proofs.Ytpbamfoaoeicgaa.PAll
open Go Go.RowKit Go.Proofs.YtpbamfoaoeicgaaW.PrintWords Go.Proofs.YtpbamfoaoeicgaaW.PrintLast Go.Proofs.YtpbamfoaoeicgaaW.PrintMore
attribute [local go_sem] max2_int min2_int max_two min_two max_three min_three max_four min_four

def ZZ : Array Value := Array.replicate 2989 (.int .i64 0)
theorem zero75 (w : World) : Sem.run Try.prog (zeroValue 75) w = .ok (.agg ZZ) w := by kernel_rfl
theorem ZZ_get (o : Nat) (h : o < 2989) : ZZ[o]? = some (.int .i64 0) := by unfold ZZ; rw [Array.getElem?_replicate, if_pos h]

/-- the table in block B holds the entries that F names -/
def Filled (B : Nat) (ms : List S68) (ps : List S45) (F : Nat → Nat → Prop) (W : World) : Prop :=
  (∀ o, o < 2989 → (W.cell? ⟨B, o, none⟩).isSome = true) ∧ (∀ o, W.frozen? ⟨B, o, none⟩ = false) ∧
  ∀ i j, i ≤ ms.length → j ≤ ps.length → F i j → W.cell? ⟨B, i * 61 + j, none⟩ = some (.int .i64 (tab ms ps i j))
theorem Filled.mono {B : Nat} {ms : List S68} {ps : List S45} {F G : Nat → Nat → Prop} {W : World} (h : Filled B ms ps F W) (hg : ∀ i j, i ≤ ms.length → j ≤ ps.length → G i j → F i j) : Filled B ms ps G W :=
  ⟨h.1, h.2.1, fun i j hi hj hg' => h.2.2 i j hi hj (hg i j hi hj hg')⟩
theorem Filled.start (ms : List S68) (ps : List S45) (w : World) : Filled w.heap.size ms ps (fun _ _ => False) (w.alloc (.cells ZZ 75)) := by
  have hb := heap_alloc_new w (.cells ZZ 75)
  refine ⟨fun o ho => ?_, fun o => ?_, fun _ _ _ _ h => h.elim⟩
  · have := ZZ_get o ho
    unfold World.cell?; rw [hb]; show (ZZ[o]?).isSome = true; rw [this]; rfl
  · unfold World.frozen?; rw [hb]; show (decide (0 ≤ o) && decide (o < 0)) = false; simp
theorem Filled.set {B : Nat} {ms : List S68} {ps : List S45} {F : Nat → Nat → Prop} {W : World} (h : Filled B ms ps F W) (i j : Nat) (hi : i < 49) (hj : j < 61) (hp : ps.length ≤ 60) :
    Filled B ms ps (fun i' j' => F i' j' ∨ (i' = i ∧ j' = j)) (W.setCell ⟨B, i * 61 + j, none⟩ (.int .i64 (tab ms ps i j))) := by
  have hlt : i * 61 + j < 2989 := by omega
  have hs := World.cell?_setCell_same' W ⟨B, i * 61 + j, none⟩ (.int .i64 (tab ms ps i j)) (h.1 _ hlt)
  refine ⟨fun o ho => ?_, fun o => by rw [World.frozen?_setCell]; exact h.2.1 o, fun i' j' hi' hj' hF => ?_⟩
  · by_cases he : o = i * 61 + j
    · subst he; rw [hs]; rfl
    · rw [World.cell?_setCell_other _ _ _ _ (fun e => he (congrArg Addr.off e).symm)]; exact h.1 o ho
  · by_cases he : i' * 61 + j' = i * 61 + j
    · have e1 : i' = i := by omega
      have e2 : j' = j := by omega
      subst e1 e2; exact hs
    · rw [World.cell?_setCell_other _ _ _ _ (fun e => he (congrArg Addr.off e).symm)]
      rcases hF with hF | ⟨rfl, rfl⟩
      · exact h.2.2 i' j' hi' hj' hF
      · exact absurd rfl he

theorem Filled.of_below {B : Nat} {ms : List S68} {ps : List S45} {F : Nat → Nat → Prop} {W W' : World} (h : Filled B ms ps F W) (hB : B < W.heap.size) (hb : Below W.heap.size W W') : Filled B ms ps F W' :=
  ⟨fun o ho => by rw [hb.cell (p := ⟨B, o, none⟩) hB]; exact h.1 o ho, fun o => by rw [hb.frozen (p := ⟨B, o, none⟩) hB]; exact h.2.1 o, fun i j hi hj hF => (hb.cell (p := ⟨B, i * 61 + j, none⟩) hB).trans (h.2.2 i j hi hj hF)⟩

/-- instants that a table's costs are reckoned from -/
def Near (ms : List S68) (ps : List S45) : Prop := (∀ x ∈ ms, 0 ≤ x.f2 ∧ x.f2 ≤ 52596001) ∧ ∀ x ∈ ps, 0 ≤ x.f0 ∧ x.f0 ≤ 52596001
theorem cost_f (m : S68) (p : S45) (h1 : 0 ≤ m.f2 ∧ m.f2 ≤ 52596001) (h2 : 0 ≤ p.f0 ∧ p.f0 ≤ 52596001) : punches_cost.f m.f0 m.f1 m.f2 p.f0 p.f1 = some (cst m p) := by
  unfold punches_cost.f cst mx
  by_cases he : m.f1 = p.f1
  · rw [if_neg (by simp [he]), if_pos he]
    unfold wrap64
    split <;> split <;> congr 1 <;> omega
  · rw [if_pos (by simpa using he), if_neg he]
    unfold wrap64
    split <;> split <;> congr 1 <;> omega

theorem KeepsSize.setCell (W : World) (a : Addr) (v : Value) : W.heap.size ≤ (W.setCell a v).heap.size := by
  show W.heap.size ≤ (W.heap.modify _ _).size; rw [Array.size_modify]; exact Nat.le_refl _
theorem fill_edge {w wr : World} {ms : List S68} {ps : List S45} {m n k b : Nat} (em : m = ms.length) (en : n = ps.length) (he : tab ms ps (m - k) (n - b) = 120 * (((ms.length - (m - k)) + (ps.length - (n - b)) : Nat) : Int))
    (hf : Filled w.heap.size ms ps (fun i j => m < i + k ∨ (i + k = m ∧ n < j + b)) wr) (hlt : w.heap.size < wr.heap.size) (hb : Below w.heap.size w wr) (hk : k < m + 1) (hbn : b < n + 1) (hm : m ≤ 48) (hn : n ≤ 60) :
    ∃ b' : Nat, b' ≤ n + 1 ∧ Value.int IntKind.i64 ((b : Int) + 1) = Value.int IntKind.i64 (b' : Int) ∧
      Aside0 (Filled w.heap.size ms ps (fun i j => m < i + k ∨ (i + k = m ∧ n < j + b')) (wr.setCell ⟨w.heap.size, (m - k) * 61 + (n - b), none⟩ (.int .i64 (120 * ((k : Int) + (b : Int)))))) ∧
      w.heap.size < (wr.setCell ⟨w.heap.size, (m - k) * 61 + (n - b), none⟩ (.int .i64 (120 * ((k : Int) + (b : Int))))).heap.size ∧ Below w.heap.size w (wr.setCell ⟨w.heap.size, (m - k) * 61 + (n - b), none⟩ (.int .i64 (120 * ((k : Int) + (b : Int))))) := by
  have hv : 120 * ((k : Int) + (b : Int)) = tab ms ps (m - k) (n - b) := by rw [he]; omega
  rw [hv]
  have hs := hf.set (m - k) (n - b) (by omega) (by omega) (by omega)
  refine ⟨b + 1, by omega, by simp, ⟨hs.mono (fun i j hi hj h => ?_)⟩, ?_, hb.setCell (p := ⟨w.heap.size, _, none⟩) (Nat.le_refl _) _⟩
  · rcases h with h | ⟨h1, h2⟩
    · exact .inl (.inl h)
    · by_cases hj' : n < j + b
      · exact .inl (.inr ⟨h1, hj'⟩)
      · exact .inr ⟨by omega, by omega⟩
  · exact Nat.lt_of_lt_of_le hlt (KeepsSize.setCell wr _ _)

/-- what is kept through a round -/
structure Rest (w : World) (ms : List S68) (ps : List S45) (m n k b : Nat) (W : World) : Prop where
  below : Below w.heap.size w W
  lt : w.heap.size < W.heap.size
  filled : Filled w.heap.size ms ps (fun i j => m < i + k ∨ (i + k = m ∧ n < j + b)) W
theorem Rest.drew {w : World} {ms : List S68} {ps : List S45} {m n k b : Nat} {W : World} (h : Rest w ms ps m n k b W) : Rest w ms ps m n k b W.drew := ⟨h.below.drew, h.lt, h.filled⟩
theorem Rest.call {w : World} {ms : List S68} {ps : List S45} {m n k b : Nat} {W W' : World} (h : Rest w ms ps m n k b W) (hb : Below W.heap.size W W') : Rest w ms ps m n k b W' :=
  ⟨h.below.trans (hb.mono h.below.size), Nat.lt_of_lt_of_le h.lt hb.size, h.filled.of_below h.lt hb⟩
theorem held_rest {A : Prop} {w : World} {ms : List S68} {ps : List S45} {m n k b : Nat} {W : World} (h : A ∧ Rest w ms ps m n k b W) : Rest w ms ps m n k b W := h.2
def valAt (W : World) (a : Addr) : Value := (W.cell? a).getD .nilFunc
theorem valAt_eq {W : World} {a : Addr} (h : (W.cell? a).isSome = true) : W.cell? a = some (valAt W a) := by
  obtain ⟨v, hv⟩ := Option.isSome_iff_exists.1 h
  unfold valAt; rw [hv]; rfl
theorem Filled.other {B : Nat} {ms : List S68} {ps : List S45} {F : Nat → Nat → Prop} {W : World} (h : Filled B ms ps F W) (i j : Nat) (hi : i < 49) (hj : j < 61) (hp : ps.length ≤ 60) (hF : ¬ F i j) (v : Value) :
    Filled B ms ps F (W.setCell ⟨B, i * 61 + j, none⟩ v) := by
  have hlt : i * 61 + j < 2989 := by omega
  have hs := World.cell?_setCell_same' W ⟨B, i * 61 + j, none⟩ v (h.1 _ hlt)
  refine ⟨fun o ho => ?_, fun o => by rw [World.frozen?_setCell]; exact h.2.1 o, fun i' j' hi' hj' hF' => ?_⟩
  · by_cases he : o = i * 61 + j
    · subst he; rw [hs]; rfl
    · rw [World.cell?_setCell_other _ _ _ _ (fun e => he (congrArg Addr.off e).symm)]; exact h.1 o ho
  · by_cases he : i' * 61 + j' = i * 61 + j
    · have e1 : i' = i := by omega
      have e2 : j' = j := by omega
      subst e1 e2; exact absurd hF' hF
    · rw [World.cell?_setCell_other _ _ _ _ (fun e => he (congrArg Addr.off e).symm)]
      exact h.2.2 i' j' hi' hj' hF'
theorem Rest.set {w : World} {ms : List S68} {ps : List S45} {m n k b : Nat} {W : World} (h : Rest w ms ps m n k b W) (i j : Nat) (hik : i + k = m) (hjb : j + b = n) (hm : m ≤ 48) (hn : n ≤ 60) (en : n = ps.length) (v : Value) :
    Rest w ms ps m n k b (W.setCell ⟨w.heap.size, i * 61 + j, none⟩ v) :=
  ⟨h.below.setCell (p := ⟨w.heap.size, _, none⟩) (Nat.le_refl _) _, Nat.lt_of_lt_of_le h.lt (KeepsSize.setCell W _ _), h.filled.other i j (by omega) (by omega) (by omega) (by omega) v⟩
theorem cells_of_rest {w W : World} {ms : List S68} {ps : List S45} {m n k b : Nat} {ad ae : Addr} (h0 : Kd.C k68 w (some ad) m ms) (h1 : Kd.C k45 w (some ae) n ps) (em : m = ms.length) (en : n = ps.length) (i j : Nat) (hik : i + k = m) (hjb : j + b = n) (hk1 : 0 < k) (hb1 : 0 < b) (hm : m ≤ 48) (hn : n ≤ 60) (hR : Rest w ms ps m n k b W) :
    W.cell? (ad.add (i * 3)) = some (.int .i64 (rd_T68 ms (i : Int)).f0) ∧ W.cell? ⟨(ad.add (i * 3)).block, (ad.add (i * 3)).off + 1, none⟩ = some (.bool (rd_T68 ms (i : Int)).f1) ∧ W.cell? ⟨(ad.add (i * 3)).block, (ad.add (i * 3)).off + 2, none⟩ = some (.int .i64 (rd_T68 ms (i : Int)).f2) ∧
    W.cell? (ae.add (j * 2)) = some (.int .i64 (rd_T45 ps (j : Int)).f0) ∧ W.cell? ⟨(ae.add (j * 2)).block, (ae.add (j * 2)).off + 1, none⟩ = some (.bool (rd_T45 ps (j : Int)).f1) ∧
    W.cell? ⟨w.heap.size, (i + 1) * 61 + (j + 1), none⟩ = some (.int .i64 (tab ms ps (i + 1) (j + 1))) ∧
    W.cell? ⟨w.heap.size, (i + 1) * 61 + j, none⟩ = some (.int .i64 (tab ms ps (i + 1) j)) ∧
    W.cell? ⟨w.heap.size, i * 61 + (j + 1), none⟩ = some (.int .i64 (tab ms ps i (j + 1))) ∧
    W.cell? ⟨w.heap.size, i * 61 + j, none⟩ = some (valAt W ⟨w.heap.size, i * 61 + j, none⟩) ∧ W.frozen? ⟨w.heap.size, i * 61 + j, none⟩ = false := by
  obtain ⟨ad', e1, a1, a2, a3⟩ := at_T68 (Kd.C_below h0 hR.below) (i : Int) (by omega) (by omega)
  obtain ⟨ae', e2, b1, b2⟩ := at_T45 (Kd.C_below h1 hR.below) (j : Int) (by omega) (by omega)
  cases e1; cases e2
  rw [Int.toNat_natCast] at a1 a2 a3 b1 b2
  exact ⟨a1, a2, a3, b1, b2, hR.filled.2.2 _ _ (by omega) (by omega) (by omega), hR.filled.2.2 _ _ (by omega) (by omega) (by omega), hR.filled.2.2 _ _ (by omega) (by omega) (by omega), valAt_eq (hR.filled.1 _ (by omega)), hR.filled.2.1 _⟩
theorem fill_step {w W : World} {ms : List S68} {ps : List S45} {m n k b i j : Nat} {v : Int} (em : m = ms.length) (en : n = ps.length) (hR : Rest w ms ps m n k b W) (hik : i + k = m) (hjb : j + b = n) (hbn : b ≤ n + 1) (hm : m ≤ 48) (hn : n ≤ 60) (hv : tab ms ps i j = v) :
    ∃ b' : Nat, b' ≤ n + 1 ∧ Value.int IntKind.i64 ((b : Int) + 1) = Value.int IntKind.i64 (b' : Int) ∧
      Aside0 (Filled w.heap.size ms ps (fun i j => m < i + k ∨ (i + k = m ∧ n < j + b')) (W.setCell ⟨w.heap.size, i * 61 + j, none⟩ (.int .i64 v))) ∧
      w.heap.size < (W.setCell ⟨w.heap.size, i * 61 + j, none⟩ (.int .i64 v)).heap.size ∧ Below w.heap.size w (W.setCell ⟨w.heap.size, i * 61 + j, none⟩ (.int .i64 v)) := by
  subst hv
  have hs := hR.filled.set i j (by omega) (by omega) (by omega)
  refine ⟨b + 1, by omega, by simp, ⟨hs.mono (fun i' j' hi' hj' h => ?_)⟩, Nat.lt_of_lt_of_le hR.lt (KeepsSize.setCell W _ _), hR.below.setCell (p := ⟨w.heap.size, _, none⟩) (Nat.le_refl _) _⟩
  rcases h with h | ⟨h1, h2⟩
  · exact .inl (.inl h)
  · by_cases hj' : n < j' + b
    · exact .inl (.inr ⟨h1, hj'⟩)
    · exact .inr ⟨by omega, by omega⟩
theorem cst_bd (x : S68) (y : S45) (h1 : 0 ≤ x.f2 ∧ x.f2 ≤ 52596001) (h2 : 0 ≤ y.f0 ∧ y.f0 ≤ 52596001) : 0 ≤ cst x y ∧ cst x y ≤ 52596061 := by
  unfold cst; split <;> split <;> omega
theorem near1 {ms : List S68} {ps : List S45} (h : Near ms ps) {i : Nat} (hi : i < ms.length) : 0 ≤ (rd_T68 ms (i : Int)).f2 ∧ (rd_T68 ms (i : Int)).f2 ≤ 52596001 := by
  have e : rd_T68 ms (i : Int) = ms[i] := by simp [rd_T68, List.getD_eq_getElem?_getD, hi]
  rw [e]; exact h.1 _ (List.getElem_mem hi)
theorem near2 {ms : List S68} {ps : List S45} (h : Near ms ps) {i : Nat} (hi : i < ps.length) : 0 ≤ (rd_T45 ps (i : Int)).f0 ∧ (rd_T45 ps (i : Int)).f0 ≤ 52596001 := by
  have e : rd_T45 ps (i : Int) = ps[i] := by simp [rd_T45, List.getD_eq_getElem?_getD, hi]
  rw [e]; exact h.2 _ (List.getElem_mem hi)

set_option maxRecDepth 100000 in
set_option maxHeartbeats 2000000 in
theorem fill_calls (A0 : Option Addr) (c0 : Nat) (ms : List S68) (A1 : Option Addr) (c1 : Nat) (ps : List S45) (w : World) (hr0 : Kd.C k68 w A0 ms.length ms) (hr1 : Kd.C k45 w A1 ps.length ps)
    (hm : ms.length ≤ 48) (hn : ps.length ≤ 60) (hnear : Near ms ps) :
    Calls Try.prog 26 #[.slice A0 ms.length c0, .slice A1 ps.length c1] w fun e w' => e = .returned (.pointer (some ⟨w.heap.size, 0, none⟩)) ∧ Filled w.heap.size ms ps (fun _ _ => True) w' ∧ w.heap.size < w'.heap.size ∧ Below w.heap.size w w' := by
  have hz := zero75
  have HR0 := Aside0.mk hr0
  have HR1 := Aside0.mk hr1
  have HN := Aside0.mk hnear
  clear hr0 hr1 hnear
  obtain ⟨m, EM⟩ : ∃ m, Aside0 (m = ms.length) := ⟨_, ⟨rfl⟩⟩
  obtain ⟨n, EN⟩ : ∃ n, Aside0 (n = ps.length) := ⟨_, ⟨rfl⟩⟩
  rw [← EM.out] at hm HR0 ⊢
  rw [← EN.out] at hn HR1 ⊢
  have hb0 : Below w.heap.size w (w.alloc (.cells ZZ 75)) := (Below.refl _ _).alloc (Nat.le_refl _) _
  have hf0 := Aside0.mk (Filled.start ms ps w)
  go_enter Try.func26, Try.ntmps26
  go_wp2_with (fail)
  clear hz
  have hlt0 : w.heap.size < (w.alloc (.cells ZZ 75)).heap.size := by simp
  generalize w.alloc (.cells ZZ 75) = wa at *
  go_loopw [15] (fun i wr => ∃ k : Nat, k ≤ m + 1 ∧ i = .int .i64 (k : Int) ∧ Aside0 (Filled w.heap.size ms ps (fun i _ => m < i + k) wr) ∧ w.heap.size < wr.heap.size ∧ Below w.heap.size w wr) (fun i _ => m + 1 - (intOf i).toNat)
  case atStart => exact ⟨0, by omega, rfl, ⟨hf0.out.mono (fun i j hi _ h => by have := EM.out; omega)⟩, hlt0, hb0⟩
  case round =>
    obtain ⟨k, hk, rfl, hf, hlt1, hb⟩ := hrel
    by_cases hlt : k < m + 1
    · have c16 : decide ((k : Int) < (m : Int) + 1) = true := by simp; omega
      go_wp2_with (fail)
      go_loopw [21] (fun i wr => ∃ b : Nat, b ≤ n + 1 ∧ i = .int .i64 (b : Int) ∧ Aside0 (Filled w.heap.size ms ps (fun i j => m < i + k ∨ (i + k = m ∧ n < j + b)) wr) ∧ w.heap.size < wr.heap.size ∧ Below w.heap.size w wr) (fun i _ => n + 1 - (intOf i).toNat)
      case atStart => exact ⟨0, by omega, rfl, ⟨hf.out.mono (fun i j hi hj h => by have := EN.out; omega)⟩, hlt1, hb⟩
      case round =>
        obtain ⟨b, hbn, rfl, hf, hlt1, hb⟩ := hrel
        by_cases hltb : b < n + 1
        · obtain ⟨v0, hcell⟩ := Option.isSome_iff_exists.1 (hf.out.1 ((m - k) * 61 + (n - b)) (by omega))
          have hfro := hf.out.2.1 ((m - k) * 61 + (n - b))
          by_cases h0 : k = 0 ∨ b = 0
          · have hedge := Aside0.mk (tab_edge ms ps (m - k) (n - b) (by have := EM.out; omega) (by have := EN.out; omega) (by have := EM.out; have := EN.out; omega))
            have c3 : (((k : Int) == 0) = true) ∨ (((k : Int) == 0) = false ∧ ((b : Int) == 0) = true) := by
              by_cases hk0 : k = 0
              · exact .inl (by simp [hk0])
              · exact .inr ⟨by simp [hk0], by simp; omega⟩
            clear h0
            rcases c3 with c3 | ⟨c3, c4⟩
            · go_wp2
              go_roundw
              case rel => exact fill_edge EM.out EN.out hedge.out hf.out hlt1 hb hlt hltb hm hn
              case measure => simp [intOf] <;> omega
            · go_wp2
              go_roundw
              case rel => exact fill_edge EM.out EN.out hedge.out hf.out hlt1 hb hlt hltb hm hn
              case measure => simp [intOf] <;> omega
          · have c3 : ((k : Int) == 0) = false := by simp; omega
            have c4 : ((b : Int) == 0) = false := by simp; omega
            have hk1 : 0 < k := by omega
            have hb1 : 0 < b := by omega
            clear h0
            obtain ⟨i, hik⟩ : ∃ i, i + k = m := ⟨m - k, by omega⟩
            obtain ⟨j, hjb⟩ : ∃ j, j + b = n := ⟨n - b, by omega⟩
            obtain ⟨ad, rfl, _⟩ := at_T68 HR0.out (i : Int) (by omega) (by omega)
            obtain ⟨ae, rfl, _⟩ := at_T45 HR1.out (j : Int) (by omega) (by omega)
            have hR : Rest w ms ps m n k b wr := ⟨hb, hlt1, hf.out⟩
            have HS := Aside0.mk (fun W hR => cells_of_rest (W := W) (ad := ad) (ae := ae) HR0.out HR1.out EM.out EN.out i j hik hjb hk1 hb1 hm hn hR)
            have HC := Aside0.mk (cost_f (rd_T68 ms (i : Int)) (rd_T45 ps (j : Int)) (near1 HN.out (by have := EM.out; omega)) (near2 HN.out (by have := EN.out; omega)))
            have hcell2 : wr.cell? ⟨w.heap.size, i * 61 + j, none⟩ = some v0 := by rw [← hcell]; congr 2 <;> omega
            have HT := Aside0.mk (tab_step ms ps i j (by have := EM.out; omega) (by have := EN.out; omega))
            have bt1 := tab_bd ms ps (i + 1) (j + 1) (EM.out ▸ hm) (EN.out ▸ hn)
            have bt2 := tab_bd ms ps (i + 1) j (EM.out ▸ hm) (EN.out ▸ hn)
            have bt3 := tab_bd ms ps i (j + 1) (EM.out ▸ hm) (EN.out ▸ hn)
            have bc := cst_bd (rd_T68 ms (i : Int)) (rd_T45 ps (j : Int)) (near1 HN.out (by have := EM.out; omega)) (near2 HN.out (by have := EN.out; omega))
            clear hcell hfro hf
            have hi : (m : Int) - (k : Int) = (i : Int) := by omega
            have hj : (n : Int) - (b : Int) = (j : Int) := by omega
            go_wp2_with (fail)
            clear hi hj
            have i1 : (i : Int) < (m : Int) := by omega
            have i2 : (i : Int) + 1 < 49 := by omega
            have i3 : (i : Int) < 49 := by omega
            have j1 : (j : Int) < (n : Int) := by omega
            have j2 : (j : Int) + 1 < 61 := by omega
            have j3 : (j : Int) < 61 := by omega
            have i4 : (0 : Int) ≤ (i : Int) := by omega
            have i5 : (0 : Int) ≤ (i : Int) + 1 := by omega
            have j4 : (0 : Int) ≤ (j : Int) := by omega
            have j5 : (0 : Int) ≤ (j : Int) + 1 := by omega
            have i6 : IntKind.i64.wrap ((i : Int) + 1) = (i : Int) + 1 := by rw [IntKind.wrap_i64]; omega
            have j6 : IntKind.i64.wrap ((j : Int) + 1) = (j : Int) + 1 := by rw [IntKind.wrap_i64]; omega
            have i7 : ((i : Int) + 1).toNat = i + 1 := by omega
            have j7 : ((j : Int) + 1).toNat = j + 1 := by omega
            obtain ⟨x, hx⟩ : ∃ x, rd_T68 ms (i : Int) = x := ⟨_, rfl⟩
            obtain ⟨y, hy⟩ : ∃ y, rd_T45 ps (j : Int) = y := ⟨_, rfl⟩
            rw [hx, hy] at HC HS HT bc
            clear hx hy
            have s1 : IntKind.i64.wrap (cst x y + tab ms ps (i + 1) (j + 1)) = cst x y + tab ms ps (i + 1) (j + 1) := by rw [IntKind.wrap_i64]; omega
            have s2 : IntKind.i64.wrap (120 + tab ms ps (i + 1) j) = 120 + tab ms ps (i + 1) j := by rw [IntKind.wrap_i64]; omega
            have s3 : IntKind.i64.wrap (120 + tab ms ps i (j + 1)) = 120 + tab ms ps i (j + 1) := by rw [IntKind.wrap_i64]; omega
            clear bt1 bt2 bt3 bc
            go_region_held3 (fun w' => (w'.cell? (ad.add (i * 3)) = some (.int .i64 x.f0) ∧ w'.cell? ⟨(ad.add (i * 3)).block, (ad.add (i * 3)).off + 1, none⟩ = some (.bool x.f1) ∧ w'.cell? ⟨(ad.add (i * 3)).block, (ad.add (i * 3)).off + 2, none⟩ = some (.int .i64 x.f2) ∧
                w'.cell? (ae.add (j * 2)) = some (.int .i64 y.f0) ∧ w'.cell? ⟨(ae.add (j * 2)).block, (ae.add (j * 2)).off + 1, none⟩ = some (.bool y.f1) ∧
                w'.cell? ⟨w.heap.size, (i + 1) * 61 + (j + 1), none⟩ = some (.int .i64 (tab ms ps (i + 1) (j + 1))) ∧
                w'.cell? ⟨w.heap.size, (i + 1) * 61 + j, none⟩ = some (.int .i64 (tab ms ps (i + 1) j)) ∧
                w'.cell? ⟨w.heap.size, i * 61 + (j + 1), none⟩ = some (.int .i64 (tab ms ps i (j + 1))) ∧
                w'.cell? ⟨w.heap.size, i * 61 + j, none⟩ = some (valAt w' ⟨w.heap.size, i * 61 + j, none⟩) ∧ w'.frozen? ⟨w.heap.size, i * 61 + j, none⟩ = false) ∧ Rest w ms ps m n k b w')
              (first
                | exact ⟨HS.out _ (Rest.drew hR), Rest.drew hR⟩
                | assumption
                | exact ⟨HS.out _ (Rest.set (held_rest (by assumption)) i j hik hjb hm hn EN.out _), Rest.set (held_rest (by assumption)) i j hik hjb hm hn EN.out _⟩
                | exact ⟨HS.out _ (Rest.call (held_rest (by assumption)) hb2), Rest.call (held_rest (by assumption)) hb2⟩)
              (first
                | (go_at_call 28; refine (punches_cost.calls _ _ _ _ _ _ _ HC.out).mono ?_; rintro _ x4 ⟨rfl, hb2⟩))
            go_wp2
            all_goals
              go_roundw
              case rel => exact fill_step EM.out EN.out (Rest.call (Rest.drew hR) hb2) hik hjb hbn hm hn (by rw [HT.out]; omega)
              case measure => simp [intOf] <;> omega
        · go_wp2
          go_roundw
          case rel => exact ⟨k + 1, by omega, by go_num, ⟨hf.out.mono (fun i j hi hj h => by have := EN.out; have := EM.out; omega)⟩, hlt1, hb⟩
          case measure => simp [intOf] <;> omega
    · go_wp2
      go_ret
      exact ⟨rfl, hf.out.mono (fun i j hi hj _ => by have := EM.out; omega), hlt1, hb⟩
end Go.Proofs.Ytpbamfoaoeicgaa.PAll
