/- The fixed examples of the laws' head hold. -/
import Derived.Test.YticmjkjojhcdpaaDoorBr3
import Derived.Test.YticmjkjojhcdpaaDoorPAllx6
set_option linter.unusedVariables false
set_option linter.unusedSimpArgs false
namespace Go.Proofs.YticmjkjojhcdpaaDoor.PAll
open Go Go.RowKit Go.Proofs.YticmjkjojhcdpaaDoor.Lx Go.Proofs.YticmjkjojhcdpaaDoorW.PrintWords

theorem rdT_map (P : List PTok) (i : Nat) {x : PTok} (h : P[i]? = some x) : rd_T30 (P.map toT) (i : Int) = toT x := by
  unfold rd_T30
  rw [Int.toNat_natCast, List.getD_eq_getElem?_getD, List.getElem?_map, h]; rfl
theorem toT_f0 (x : PTok) : (toT x).f0 = (x.1 : Int) := rfl
theorem toT_f1 (x : PTok) : (toT x).f1 = ⟨x.2.1.toArray⟩ := rfl
theorem toT_f2 (x : PTok) : (toT x).f2 = (x.2.2 : Int) := rfl
theorem texts_l0 (P : List PTok) (hl : P.length < 100000) : ∀ (d i k : Nat), P.length = i + d → d < k →
    wageofficelaw06_texts.l0 k (P.map fun x => ⟨x.2.1.toArray⟩) (P.map fun x => (x.2.2 : Int)) (P.map toT) (i : Int) = some true := by
  intro d
  induction d with
  | zero =>
    intro i k hi hk
    obtain ⟨k, rfl⟩ : ∃ q, k = q + 1 := ⟨k - 1, by omega⟩
    simp only [wageofficelaw06_texts.l0]
    rw [if_neg (by rw [List.length_map]; omega)]
  | succ d ih =>
    intro i k hi hk
    obtain ⟨k, rfl⟩ : ∃ q, k = q + 1 := ⟨k - 1, by omega⟩
    have hx : P[i]? = some P[i] := List.getElem?_eq_getElem (by omega)
    simp only [wageofficelaw06_texts.l0]
    have e1 : rdOf ByteArray.empty (P.map fun x => (⟨x.2.1.toArray⟩ : ByteArray)) (i : Int) = ⟨P[i].2.1.toArray⟩ := by
      unfold rdOf; rw [Int.toNat_natCast, List.getD_eq_getElem?_getD, List.getElem?_map, hx]; rfl
    have e2 : rd (P.map fun x => (x.2.2 : Int)) (i : Int) = (P[i].2.2 : Int) := by
      unfold rd; rw [Int.toNat_natCast, List.getD_eq_getElem?_getD, List.getElem?_map, hx]; rfl
    rw [if_pos (by rw [List.length_map]; omega), if_pos (by omega), if_pos (by rw [List.length_map]; omega), rdT_map P i hx, e1, toT_f1, if_pos rfl, if_pos (by rw [List.length_map]; omega), e2, toT_f2, if_pos rfl]
    have hw : wrap64 ((i : Int) + 1) = ((i + 1 : Nat) : Int) := by rw [w64 (by omega) (by omega)]; omega
    rw [hw]
    exact ih (i + 1) k (by omega) (by omega)
theorem texts_true (s : ByteArray) (hs : s.size ≤ 6000) (P : List PTok) (f : Nat) (hf : s.size < f) (h : lexF f 0 (bs s) = P) (ho : P.all (fun x => x.1 != 0) = true) (hl : P.length ≤ 2000) (k : Nat) (hk : P.length + 2 ≤ k) :
    wageofficelaw06_texts.f k s (P.map fun x => ⟨x.2.1.toArray⟩) (P.map fun x => (x.2.2 : Int)) = some true := by
  have hL := lexF_ok f 0 (bs s) (by rw [bs_len]; exact hf)
  rw [h] at hL
  unfold wageofficelaw06_texts.f
  rw [Lex_ok s hs hL (fun x hx => by simpa using List.all_eq_true.1 ho x hx) hl, Option.bind_some, if_pos rfl, if_pos rfl]
  obtain ⟨k, rfl⟩ : ∃ q, k = q + 1 := ⟨k - 1, by omega⟩
  simp only [wageofficelaw06_texts.j0]
  rw [if_neg (by simp)]
  exact texts_l0 P (by omega) P.length 0 k (by omega) (by omega)
theorem fails_true (s : ByteArray) (hs : s.size ≤ 6000) (P : List PTok) (f : Nat) (hf : s.size < f) (h : lexF f 0 (bs s) = P) (e a : Int) (he : fin [] (P.map cv) = ([], e, a)) :
    wageofficelaw06_fails.f s e a = some true := by
  have hL := lexF_ok f 0 (bs s) (by rw [bs_len]; exact hf)
  rw [h] at hL
  unfold wageofficelaw06_fails.f
  rw [Lex_is s hs hL, he, Option.bind_some]
  simp
set_option maxRecDepth 100000 in
theorem head_true (k : Nat) (hk : 10 ≤ k) : wageofficelaw06_head.f k = some true := by
  unfold wageofficelaw06_head.f
  rw [show wageofficelaw06_texts.f k (⟨#[104, 111, 117, 114, 115, 32, 62, 61, 32, 56, 32, 109, 105, 110, 32, 47, 47, 32, 120]⟩ : ByteArray) (([(⟨#[104, 111, 117, 114, 115]⟩ : ByteArray), (⟨#[62, 61]⟩ : ByteArray), (⟨#[56]⟩ : ByteArray), (⟨#[109, 105, 110]⟩ : ByteArray)] : List ByteArray)) (([0, 6, 9, 11] : List Int)) = some true from
    texts_true _ (by decide) [(1, [104, 111, 117, 114, 115], 0), (6, [62, 61], 6), (3, [56], 9), (1, [109, 105, 110], 11)] 30 (by decide) (by decide +kernel) (by decide) (by decide) k (by simp; omega)]
  rw [Option.bind_some, if_pos rfl]
  rw [show wageofficelaw06_texts.f k (⟨#[69, 85, 82, 32, 49, 50, 46, 53, 48, 42, 50]⟩ : ByteArray) (([(⟨#[69, 85, 82]⟩ : ByteArray), (⟨#[49, 50, 46, 53, 48]⟩ : ByteArray), (⟨#[42]⟩ : ByteArray), (⟨#[50]⟩ : ByteArray)] : List ByteArray)) (([0, 4, 9, 10] : List Int)) = some true from
    texts_true _ (by decide) [(2, [69, 85, 82], 0), (4, [49, 50, 46, 53, 48], 4), (6, [42], 9), (3, [50], 10)] 30 (by decide) (by decide +kernel) (by decide) (by decide) k (by simp; omega)]
  rw [Option.bind_some]
  obtain ⟨k, rfl⟩ : ∃ q, k = q + 1 := ⟨k - 1, by omega⟩
  simp only [wageofficelaw06_head.j0]
  rw [if_pos trivial]
  rw [show wageofficelaw06_texts.f k (⟨#[50, 48, 50, 52, 45, 48, 50, 45, 51, 48]⟩ : ByteArray) (([(⟨#[50, 48, 50, 52, 45, 48, 50, 45, 51, 48]⟩ : ByteArray)] : List ByteArray)) (([0] : List Int)) = some true from
    texts_true _ (by decide) [(5, [50, 48, 50, 52, 45, 48, 50, 45, 51, 48], 0)] 30 (by decide) (by decide +kernel) (by decide) (by decide) k (by simp; omega)]
  rw [Option.bind_some, if_pos rfl]
  rw [fails_true (⟨#[50, 48, 50, 52, 45, 48, 50]⟩ : ByteArray) (by decide) [(3, [50, 48, 50, 52], 0), (6, [45], 4), (0, [], 5)] 30 (by decide) (by decide +kernel) 61 5 (by rfl), Option.bind_some, if_pos rfl]
  rw [fails_true (⟨#[49, 50, 46, 53]⟩ : ByteArray) (by decide) [(0, [], 0)] 30 (by decide) (by decide +kernel) 61 0 (by rfl), Option.bind_some, if_pos rfl]
  rw [fails_true (⟨#[48, 48, 55]⟩ : ByteArray) (by decide) [(0, [], 0)] 30 (by decide) (by decide +kernel) 61 0 (by rfl), Option.bind_some, if_pos rfl]
  rw [fails_true (⟨#[69, 85, 82, 79]⟩ : ByteArray) (by decide) [(0, [], 0)] 30 (by decide) (by decide +kernel) 61 0 (by rfl), Option.bind_some, if_pos rfl]
  rw [fails_true (⟨#[97, 33, 98]⟩ : ByteArray) (by decide) [(1, [97], 0), (0, [], 1)] 30 (by decide) (by decide +kernel) 61 1 (by rfl), Option.bind_some, if_pos rfl]
  rw [show wageofficelaw06_texts.f k (⟨#[]⟩ : ByteArray) ([] : List ByteArray) ([] : List Int) = some true from
    texts_true _ (by decide) [] 30 (by decide) (by decide +kernel) (by decide) (by decide) k (by simp; omega)]
  rfl
end Go.Proofs.YticmjkjojhcdpaaDoor.PAll
