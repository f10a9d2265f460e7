/- Part 3 of the texts behind the statement that the last text of this claim proves. -/
import Derived.Shelf.SlSortCmp.WholeK
import Derived.Test.YtijflnpgiegajaaProg
import Derived.Deep.RegionHeld3
import Derived.Test.YtijflnpgiegajaaKD0
import Derived.Test.YtijflnpgiegajaaKD1
import Derived.Test.YtijflnpgiegajaaKD2
section
namespace Go.Proofs.Ytijflnpgiegajaa.Q
open Go.RowKit Go.Proofs.YtijflnpgiegajaaW.PrintWords Go.Proofs.YtijflnpgiegajaaW.PrintLast Go.Proofs.YtijflnpgiegajaaW.PrintMore Go.Proofs.Ytijflnpgiegajaa.IM
set_option linter.unusedVariables false
set_option linter.unusedSimpArgs false
def NodeP (n : Int) : Prop := 1 ≤ n ∧ n ≤ 255
instance (n : Int) : Decidable (NodeP n) := by unfold NodeP; infer_instance
def TimeP (t : Int) : Prop := 0 ≤ t ∧ t ≤ 1099511627776
instance (n : Int) : Decidable (TimeP n) := by unfold TimeP; infer_instance
def SizeP (t : Int) : Prop := 0 ≤ t ∧ t ≤ 1099511627775
instance (n : Int) : Decidable (SizeP n) := by unfold SizeP; infer_instance
def RightE (e : S65) : Prop := NodeP e.f1 ∧ NodeP e.f2 ∧ e.f1 ≠ e.f2 ∧ (0 ≤ e.f3 ∧ e.f3 ≤ 1099511627776) ∧ (1 ≤ e.f4 ∧ e.f4 ≤ 2147483647) ∧ (0 ≤ e.f6 ∧ e.f6 ≤ 2147483647) ∧ (1 ≤ e.f0 ∧ e.f0 ≤ 1048576) ∧ (1 ≤ e.f5 ∧ e.f5 ≤ 2147483647) ∧ (0 ≤ e.f7 ∧ e.f7 ≤ 4611686018427387904)
instance (e : S65) : Decidable (RightE e) := by unfold RightE; infer_instance
def takes (e : S65) (size : Int) : Int := size / e.f5 + min (size % e.f5) 1
def PassP (e : S65) (t size : Int) : Prop := TimeP t ∧ SizeP size ∧ RightE e ∧ size ≤ e.f7 ∧ max t e.f3 ≤ e.f4 - max (takes e size) 1
instance (e : S65) (t size : Int) : Decidable (PassP e t size) := by unfold PassP; infer_instance
def sendAt (e : S65) (t : Int) : Int := max t e.f3
def thereAt (e : S65) (t size : Int) : Int := max t e.f3 + takes e size + e.f6
def LateP (e : S65) (by_ size : Int) : Prop := TimeP by_ ∧ SizeP size ∧ RightE e ∧ size ≤ e.f7 ∧ e.f3 ≤ min (e.f4 - max (takes e size) 1) (by_ - takes e size - e.f6)
instance (e : S65) (t size : Int) : Decidable (LateP e t size) := by unfold LateP; infer_instance
def lateAt (e : S65) (by_ size : Int) : Int := min (e.f4 - max (takes e size) 1) (by_ - takes e size - e.f6)
theorem takes_bd {e : S65} (h : RightE e) {size : Int} (hs : SizeP size) : 0 ≤ takes e size ∧ takes e size ≤ 1099511627776 := by
  obtain ⟨_, _, _, _, _, _, _, ⟨h5, _⟩, _⟩ := h
  unfold takes SizeP at *
  have h1 : 0 ≤ size / e.f5 := Int.ediv_nonneg hs.1 (by omega)
  have h2 : size / e.f5 ≤ size := Int.ediv_le_self _ hs.1
  have h3 : 0 ≤ size % e.f5 := Int.emod_nonneg _ (by omega)
  omega
theorem num_In_eq (a b c : Int) : num_In.f a b c = some (decide (b ≤ a ∧ a ≤ c)) := by
  unfold num_In.f
  by_cases h : b ≤ a
  · rw [if_pos h]; simp [h]
  · rw [if_neg h]; simp [h]
theorem check_Node_eq (a : Int) : check_Node.f a = some (decide (NodeP a)) := by
  simp only [check_Node.f, num_In_eq, Option.bind_some]
  rfl
theorem check_Bundle_eq (a b c d e : Int) : check_Bundle.f a b c d e = some (decide (NodeP a ∧ NodeP b ∧ SizeP c ∧ (0 ≤ d ∧ d ≤ 2) ∧ TimeP e)) := by
  unfold check_Bundle.f
  simp only [check_Node_eq, num_In_eq, Option.bind_some, decide_eq_true_eq, SizeP, TimeP]
  by_cases h1 : NodeP a <;> by_cases h2 : NodeP b <;> by_cases h3 : 0 ≤ c ∧ c ≤ 1099511627775 <;> by_cases h4 : 0 ≤ d ∧ d ≤ 2 <;> simp [h1, h2, h3, h4]
theorem hop_Right_eq (k : Nat) (e : S65) : hop_Right.f (k + 1) e.f0 e.f1 e.f2 e.f3 e.f4 e.f5 e.f6 e.f7 = some (decide (RightE e)) := by
  have hj : ∀ b : Bool, hop_Right.j0 (k + 1) b e.f0 e.f1 e.f2 e.f3 e.f4 e.f5 e.f6 e.f7 = some (b && decide ((0 ≤ e.f3 ∧ e.f3 ≤ 1099511627776) ∧ (1 ≤ e.f4 ∧ e.f4 ≤ 2147483647) ∧ (0 ≤ e.f6 ∧ e.f6 ≤ 2147483647) ∧ (1 ≤ e.f0 ∧ e.f0 ≤ 1048576) ∧ (1 ≤ e.f5 ∧ e.f5 ≤ 2147483647) ∧ (0 ≤ e.f7 ∧ e.f7 ≤ 4611686018427387904))) := by
    intro b
    simp only [hop_Right.j0, num_In_eq, Option.bind_some, decide_eq_true_eq]
    by_cases h1 : 0 ≤ e.f3 ∧ e.f3 ≤ 1099511627776 <;> by_cases h2 : 1 ≤ e.f4 ∧ e.f4 ≤ 2147483647 <;> by_cases h3 : 0 ≤ e.f6 ∧ e.f6 ≤ 2147483647 <;> by_cases h4 : 1 ≤ e.f0 ∧ e.f0 ≤ 1048576 <;> by_cases h5 : 1 ≤ e.f5 ∧ e.f5 ≤ 2147483647 <;> cases b <;> simp [h1, h2, h3, h4, h5]
  unfold hop_Right.f
  simp only [check_Node_eq, Option.bind_some, decide_eq_true_eq, hj]
  unfold RightE
  by_cases h1 : NodeP e.f1 <;> by_cases h2 : NodeP e.f2 <;> by_cases h3 : e.f1 = e.f2 <;> simp [h1, h2, h3]
theorem hop_right_eq (k : Nat) (e : S65) (t size : Int) : hop_right.f (k + 1) e.f0 e.f1 e.f2 e.f3 e.f4 e.f5 e.f6 e.f7 t size = some (decide (TimeP t ∧ SizeP size ∧ RightE e)) := by
  unfold hop_right.f
  simp only [num_In_eq, hop_Right_eq, Option.bind_some, decide_eq_true_eq, TimeP, SizeP]
  by_cases h1 : 0 ≤ t ∧ t ≤ 1099511627776 <;> by_cases h2 : 0 ≤ size ∧ size ≤ 1099511627775 <;> simp [h1, h2]
theorem mx_eq (a b : Int) : mx a b = max a b := by unfold mx; omega
theorem mn_eq (a b : Int) : mn a b = min a b := by unfold mn; omega
theorem wrap_in {x : Int} (h0 : -9223372036854775808 ≤ x) (h1 : x ≤ 9223372036854775807) : wrap64 x = x := by unfold wrap64; omega
theorem hop_Takes_eq (k : Nat) (e : S65) (size : Int) (hr : RightE e) (hs : SizeP size) : hop_Takes.f (k + 1) e.f0 e.f1 e.f2 e.f3 e.f4 e.f5 e.f6 e.f7 size = some (takes e size) := by
  have ht : TimeP 0 := by unfold TimeP; omega
  have hb := takes_bd hr hs
  obtain ⟨_, _, _, _, _, _, _, ⟨h5, _⟩, _⟩ := id hr
  have hs' := hs
  unfold SizeP at hs'
  have h1 : 0 ≤ size / e.f5 := Int.ediv_nonneg hs'.1 (by omega)
  have h2 : size / e.f5 ≤ size := Int.ediv_le_self _ hs'.1
  unfold hop_Takes.f num_Ceil.f
  rw [hop_right_eq]
  simp only [Option.bind_some, ht, hs, hr, and_self, decide_true, if_true]
  rw [if_neg (by omega), if_neg (by omega), if_neg (by omega)]
  simp only [Option.bind_some, mn_eq]
  rw [Int.tdiv_eq_ediv_of_nonneg hs'.1, Int.tmod_eq_emod_of_nonneg hs'.1, wrap_in (x := size / e.f5) (by omega) (by omega)]
  unfold takes at *
  rw [wrap_in (by omega) (by omega)]
theorem hop_Takes_some (k : Nat) (e : S65) (size : Int) : ∃ r, hop_Takes.f (k + 1) e.f0 e.f1 e.f2 e.f3 e.f4 e.f5 e.f6 e.f7 size = some r := by
  by_cases h : SizeP size ∧ RightE e
  · exact ⟨_, hop_Takes_eq k e size h.2 h.1⟩
  · refine ⟨0, ?_⟩
    unfold hop_Takes.f
    rw [hop_right_eq]
    have : ¬ (TimeP 0 ∧ SizeP size ∧ RightE e) := fun g => h g.2
    simp [this]
theorem hop_Pass_eq (k : Nat) (e : S65) (t size : Int) : hop_Pass.f (k + 1) e.f0 e.f1 e.f2 e.f3 e.f4 e.f5 e.f6 e.f7 t size = some (if PassP e t size then (sendAt e t, thereAt e t size, true) else (0, 0, false)) := by
  obtain ⟨tk, htk⟩ := hop_Takes_some k e size
  unfold hop_Pass.f
  rw [htk, hop_right_eq]
  simp only [Option.bind_some, decide_eq_true_eq]
  by_cases h : TimeP t ∧ SizeP size ∧ RightE e
  · rw [if_pos h]
    rw [hop_Takes_eq k e size h.2.2 h.2.1] at htk
    obtain rfl := Option.some.inj htk
    have hb := takes_bd h.2.2 h.2.1
    obtain ⟨h1, h2, h3⟩ := h
    have h3' := h3
    obtain ⟨_, _, _, g3, g4, g6, _, _, _⟩ := h3'
    have h1' := h1
    unfold TimeP at h1'
    rw [mx_eq, mx_eq, wrap_in (x := e.f4 - max (takes e size) 1) (by omega) (by omega)]
    by_cases c1 : size > e.f7
    · rw [if_pos c1, if_neg (fun g => by have := g.2.2.2.1; omega)]
    · rw [if_neg c1]
      by_cases c2 : max t e.f3 > e.f4 - max (takes e size) 1
      · rw [if_pos c2, if_neg (fun g => by have := g.2.2.2.2; omega)]
      · rw [if_neg c2, if_pos ⟨h1, h2, h3, by omega, by omega⟩]
        unfold sendAt thereAt
        rw [wrap_in (x := max t e.f3 + takes e size) (by omega) (by omega), wrap_in (by omega) (by omega)]
  · rw [if_neg h, if_neg (fun g => h ⟨g.1, g.2.1, g.2.2.1⟩)]
theorem hop_Latest_eq (k : Nat) (e : S65) (t size : Int) : hop_Latest.f (k + 1) e.f0 e.f1 e.f2 e.f3 e.f4 e.f5 e.f6 e.f7 t size = some (if LateP e t size then (lateAt e t size, true) else (0, false)) := by
  obtain ⟨tk, htk⟩ := hop_Takes_some k e size
  unfold hop_Latest.f
  rw [htk, hop_right_eq]
  simp only [Option.bind_some, decide_eq_true_eq]
  by_cases h : TimeP t ∧ SizeP size ∧ RightE e
  · rw [if_pos h]
    rw [hop_Takes_eq k e size h.2.2 h.2.1] at htk
    obtain rfl := Option.some.inj htk
    have hb := takes_bd h.2.2 h.2.1
    obtain ⟨h1, h2, h3⟩ := h
    have h3' := h3
    obtain ⟨_, _, _, g3, g4, g6, _, _, _⟩ := h3'
    have h1' := h1
    unfold TimeP at h1'
    rw [mx_eq, mn_eq, wrap_in (x := e.f4 - max (takes e size) 1) (by omega) (by omega), wrap_in (x := t - takes e size) (by omega) (by omega), wrap_in (x := t - takes e size - e.f6) (by omega) (by omega)]
    by_cases c1 : size > e.f7
    · rw [if_pos c1, if_neg (fun g => by have := g.2.2.2.1; omega)]
    · rw [if_neg c1]
      by_cases c2 : min (e.f4 - max (takes e size) 1) (t - takes e size - e.f6) < e.f3
      · rw [if_pos c2, if_neg (fun g => by have := g.2.2.2.2; omega)]
      · rw [if_neg c2, if_pos ⟨h1, h2, h3, by omega, by omega⟩]
        rfl
  · rw [if_neg h, if_neg (fun g => h ⟨g.1, g.2.1, g.2.2.1⟩)]
theorem rd65 (l : List S65) (i : Nat) (h : i < l.length) : rd_T65 l (i : Int) = l[i] := by simp [rd_T65, List.getD_eq_getElem?_getD, List.getElem?_eq_getElem h]
theorem rd56 (l : List S56) (i : Nat) (h : i < l.length) : rd_T56 l (i : Int) = l[i] := by simp [rd_T56, List.getD_eq_getElem?_getD, List.getElem?_eq_getElem h]
theorem rd71 (l : List S71) (i : Nat) (h : i < l.length) : rd_T71 l (i : Int) = l[i] := by simp [rd_T71, List.getD_eq_getElem?_getD, List.getElem?_eq_getElem h]
theorem rdI (l : List Int) (i : Nat) (h : i < l.length) : rd l (i : Int) = l[i] := by simp [rd, List.getD_eq_getElem?_getD, List.getElem?_eq_getElem h]
theorem wrap_succ {n : Nat} (i : Nat) (hi : i < n) (hn : n ≤ 1000000) : wrap64 ((i : Int) + 1) = ((i + 1 : Nat) : Int) := by
  rw [wrap_in (by omega) (by omega)]; omega
def RightL : List S65 → Prop
  | [] => True
  | [e] => RightE e
  | e :: e' :: r => RightE e ∧ e.f0 < e'.f0 ∧ RightL (e' :: r)
instance decRightL : (l : List S65) → Decidable (RightL l)
  | [] => .isTrue trivial
  | [e] => by unfold RightL; infer_instance
  | e :: e' :: r => by
    have := decRightL (e' :: r)
    unfold RightL
    infer_instance
theorem rightL_drop (l : List S65) (i : Nat) (h : i < l.length) : RightL (l.drop i) ↔ RightE l[i] ∧ (∀ h2 : i + 1 < l.length, l[i].f0 < l[i + 1].f0) ∧ RightL (l.drop (i + 1)) := by
  rw [List.drop_eq_getElem_cons h]
  by_cases h2 : i + 1 < l.length
  · rw [List.drop_eq_getElem_cons h2]
    simp [RightL, h2]
  · rw [List.drop_eq_nil_of_le (by omega)]
    simp [RightL]
    omega
theorem path_Right_l0 (l : List S65) (hl : l.length ≤ 1000000) : ∀ (d i k : Nat), i + d = l.length → d < k → (0 < i → ∀ h1 : i - 1 < l.length, ∀ h : i < l.length, l[i - 1].f0 < l[i].f0 ∨ ¬ l[i - 1].f0 < l[i].f0) →
    path_Right.l0 k l l (l.length : Int) (i : Int) = some (decide ((0 < i → ∀ h1 : i - 1 < l.length, ∀ h : i < l.length, l[i - 1].f0 < l[i].f0) ∧ RightL (l.drop i)))
  | 0, i, k, hd, hk, _ => by
    obtain ⟨k, rfl⟩ : ∃ m, k = m + 1 := ⟨k - 1, by omega⟩
    simp only [path_Right.l0]
    rw [if_neg (by omega)]
    have : RightL (l.drop i) := by rw [List.drop_eq_nil_of_le (by omega)]; trivial
    congr 1
    symm
    rw [decide_eq_true_eq]
    exact ⟨fun _ _ h => by omega, this⟩
  | d + 1, i, k, hd, hk, _ => by
    obtain ⟨k, rfl⟩ : ∃ m, k = m + 1 := ⟨k - 1, by omega⟩
    obtain ⟨k, rfl⟩ : ∃ m, k = m + 1 := ⟨k - 1, by omega⟩
    have hi : i < l.length := by omega
    have ih := path_Right_l0 l hl d (i + 1) (k + 1) (by omega) (by omega) (fun _ _ _ => Decidable.em _)
    rw [path_Right.l0]
    rw [if_pos (by omega), if_pos (by omega), if_pos (by omega), hop_Right_eq, rd65 l i hi, wrap_succ i hi hl]
    simp only [Option.bind_some, decide_eq_true_eq]
    have hiff := rightL_drop l i hi
    have hnext : (0 < i + 1 → ∀ h1 : i + 1 - 1 < l.length, ∀ h : i + 1 < l.length, l[i + 1 - 1].f0 < l[i + 1].f0) ↔ (∀ h2 : i + 1 < l.length, l[i].f0 < l[i + 1].f0) := ⟨fun g h2 => g (by omega) hi h2, fun g _ _ h2 => g h2⟩
    by_cases hr : RightE l[i]
    · rw [if_pos hr, ih]
      by_cases h0 : (i : Int) > 0
      · rw [if_pos h0, wrap_in (by omega) (by omega), if_pos (by omega), if_pos (by omega)]
        obtain ⟨j, rfl⟩ : ∃ j, i = j + 1 := ⟨i - 1, by omega⟩
        rw [show ((j + 1 : Nat) : Int) - 1 = ((j : Nat) : Int) from by omega, rd65 l j (by omega)]
        by_cases hge : l[j].f0 ≥ l[j + 1].f0
        · rw [if_pos hge]
          congr 1
          symm
          rw [decide_eq_false_iff_not]
          rintro ⟨g, _⟩
          have := g (by omega) (by simp; omega) hi
          simp at this
          omega
        · rw [if_neg hge]
          congr 1
          rw [decide_eq_decide, hnext, hiff]
          constructor
          · rintro ⟨a, b⟩
            exact ⟨fun _ _ _ => by simp; omega, hr, a, b⟩
          · rintro ⟨_, _, a, b⟩
            exact ⟨a, b⟩
      · rw [if_neg h0]
        congr 1
        rw [decide_eq_decide, hnext, hiff]
        constructor
        · rintro ⟨a, b⟩
          exact ⟨fun _ _ _ => by omega, hr, a, b⟩
        · rintro ⟨_, _, a, b⟩
          exact ⟨a, b⟩
    · rw [if_neg hr]
      congr 1
      symm
      rw [decide_eq_false_iff_not]
      rintro ⟨_, g⟩
      exact hr (hiff.1 g).1
theorem path_Right_eq (l : List S65) (hl : l.length ≤ 1000000) (k : Nat) (hk : l.length < k) : path_Right.f k l = some (decide (RightL l)) := by
  unfold path_Right.f
  have := path_Right_l0 l hl l.length 0 k (by omega) hk (fun h => by omega)
  rw [show ((0 : Nat) : Int) = 0 from rfl] at this
  rw [this]
  simp
def Asked (l : List S65) (frm now size : Int) : Prop := NodeP frm ∧ TimeP now ∧ SizeP size ∧ RightL l
instance (l : List S65) (frm now size : Int) : Decidable (Asked l frm now size) := by unfold Asked; infer_instance
theorem path_asked_eq (l : List S65) (hl : l.length ≤ 1000000) (k : Nat) (hk : l.length < k) (frm dst now size : Int) : path_asked.f k l frm dst now size = some (decide (NodeP frm ∧ NodeP dst ∧ TimeP now ∧ SizeP size ∧ RightL l)) := by
  unfold path_asked.f
  rw [check_Bundle_eq, path_Right_eq l hl k hk]
  simp only [Option.bind_some, decide_eq_true_eq]
  by_cases h1 : NodeP frm <;> by_cases h2 : NodeP dst <;> by_cases h3 : SizeP size <;> by_cases h4 : TimeP now <;> simp [h1, h2, h3, h4]
def walkT : List S65 → Int → Int → Option (List S56)
  | [], _, _ => some []
  | e :: r, t, size => if PassP e t size then (walkT r (thereAt e t size) size).map (⟨e.f0, sendAt e t, thereAt e t size⟩ :: ·) else none
def toRes (o : Option (List S56)) : List S56 × Bool := match o with | some h => (h, true) | none => ([], false)
def walkP (l : List S65) (ids : List Int) (frm now size : Int) : Option (List S56) :=
  let s := stepsGo (byId l) ids frm []
  if s.2 = true ∧ Asked l frm now size then walkT s.1 now size else none
theorem path_Walk_l0 (size : Int) (es : List S65) (hl : es.length ≤ 1000000) : ∀ (d i k : Nat) (t : Int) (acc : List S56), i + d = es.length → d < k → acc.length = i →
    path_Walk.l0 k t size acc es (es.length : Int) (i : Int) = some (toRes ((walkT (es.drop i) t size).map (acc ++ ·)))
  | 0, i, k, t, acc, hd, hk, ha => by
    obtain ⟨k, rfl⟩ : ∃ m, k = m + 1 := ⟨k - 1, by omega⟩
    rw [path_Walk.l0, if_neg (by omega), List.drop_eq_nil_of_le (by omega)]
    simp [walkT, toRes]
  | d + 1, i, k, t, acc, hd, hk, ha => by
    obtain ⟨k, rfl⟩ : ∃ m, k = m + 1 := ⟨k - 1, by omega⟩
    obtain ⟨k, rfl⟩ : ∃ m, k = m + 1 := ⟨k - 1, by omega⟩
    have hi : i < es.length := by omega
    rw [path_Walk.l0, if_pos (by omega), if_pos (by omega), if_pos (by omega), hop_Pass_eq, rd65 es i hi, wrap_succ i hi hl, List.drop_eq_getElem_cons hi]
    simp only [Option.bind_some, walkT]
    by_cases hp : PassP es[i] t size
    · simp only [if_pos hp, if_true]
      rw [if_pos (by omega), path_Walk_l0 size es hl d (i + 1) (k + 1) _ _ (by omega) (by omega) (by simp [ha])]
      simp only [Option.map_map, Function.comp_def, List.append_assoc, List.singleton_append]
    · simp [if_neg hp, toRes]
theorem stepsGo_len (m : List (Int × S65)) : ∀ (ids : List Int) (frm : Int) (acc : List S65), (stepsGo m ids frm acc).1.length ≤ acc.length + ids.length
  | [], _, acc => by simp [stepsGo]
  | id :: r, frm, acc => by
    rw [stepsGo]
    cases aget m id with
    | none => simp
    | some e =>
      simp only
      split
      · have := stepsGo_len m r e.f2 (acc ++ [e])
        simp at this ⊢
        omega
      · simp
theorem path_Walk_eq (l : List S65) (hl : l.length ≤ 1000000) (ids : List Int) (hi : ids.length < 1000000) (k : Nat) (hk : l.length + ids.length + 1 < k) (frm now size : Int) : path_Walk.f k l ids frm now size = some (toRes (walkP l ids frm now size)) := by
  unfold path_Walk.f path_steps.f walkP
  rw [if_pos hi]
  simp only [Option.bind_some]
  have hlen := stepsGo_len (byId l) ids frm []
  obtain ⟨k, rfl⟩ : ∃ m, k = m + 1 := ⟨k - 1, by omega⟩
  have hb : ∀ b : Bool, path_Walk.j0 (k + 1) now size (stepsGo (byId l) ids frm []).1 b = some (if b = true then ([], false) else toRes (walkT (stepsGo (byId l) ids frm []).1 now size)) := by
    intro b
    rw [path_Walk.j0]
    cases b
    · simp only [Bool.false_eq_true, if_false]
      have := path_Walk_l0 size (stepsGo (byId l) ids frm []).1 (by simp at hlen; omega) (stepsGo (byId l) ids frm []).1.length 0 k now [] (by omega) (by simp at hlen; omega) rfl
      rw [show ((0 : Nat) : Int) = 0 from rfl] at this
      rw [this]
      simp
    · simp
  by_cases hs : (stepsGo (byId l) ids frm []).2 = true
  · rw [if_pos hs, path_asked_eq l hl (k + 1) (by omega)]
    simp only [Option.bind_some, hb]
    by_cases ha : Asked l frm now size
    · have hd : NodeP frm ∧ NodeP frm ∧ TimeP now ∧ SizeP size ∧ RightL l := ⟨ha.1, ha.1, ha.2.1, ha.2.2.1, ha.2.2.2⟩
      simp [hd, hs, ha]
    · have hd : ¬ (NodeP frm ∧ NodeP frm ∧ TimeP now ∧ SizeP size ∧ RightL l) := fun g => ha ⟨g.1, g.2.2.1, g.2.2.2.1, g.2.2.2.2⟩
      simp [hd, hs, ha, toRes]
  · rw [if_neg hs, hb]
    simp [toRes, hs]
theorem early_asked_eq (l : List S65) (hl : l.length ≤ 1000000) (k : Nat) (hk : l.length + 1 < k) (frm now size : Int) : early_asked.f k l frm now size = some (decide (Asked l frm now size)) := by
  unfold early_asked.f
  rw [path_Walk_eq l hl [] (by simp) k (by simpa using hk)]
  simp only [Option.bind_some, walkP, stepsGo, walkT]
  by_cases h : Asked l frm now size <;> simp [h, toRes]
theorem late_asked_eq (l : List S65) (hl : l.length ≤ 1000000) (k : Nat) (hk : l.length + 1 < k) (frm now size : Int) : late_asked.f k l frm now size = some (decide (Asked l frm now size)) := by
  unfold late_asked.f
  rw [path_Walk_eq l hl [] (by simp) k (by simpa using hk)]
  simp only [Option.bind_some, walkP, stepsGo, walkT]
  by_cases h : Asked l frm now size <;> simp [h, toRes]
def endsP (l : List S65) (ids : List Int) (frm : Int) : Option (List Int) :=
  let s := stepsGo (byId l) ids frm []
  if NodeP frm ∧ RightL l ∧ s.2 = true then some (frm :: s.1.map (·.f2)) else none
theorem path_Ends_l0 (es : List S65) (hl : es.length ≤ 1000000) : ∀ (d i k : Nat) (acc : List Int), i + d = es.length → d < k → acc.length = i + 1 →
    path_Ends.l0 k acc es (es.length : Int) (i : Int) = some (acc ++ (es.drop i).map (·.f2), true)
  | 0, i, k, acc, hd, hk, ha => by
    obtain ⟨k, rfl⟩ : ∃ m, k = m + 1 := ⟨k - 1, by omega⟩
    rw [path_Ends.l0, if_neg (by omega), List.drop_eq_nil_of_le (by omega)]
    simp
  | d + 1, i, k, acc, hd, hk, ha => by
    obtain ⟨k, rfl⟩ : ∃ m, k = m + 1 := ⟨k - 1, by omega⟩
    have hi : i < es.length := by omega
    rw [path_Ends.l0, if_pos (by omega), if_pos (by omega), if_pos (by omega), if_pos (by omega), rd65 es i hi, wrap_succ i hi hl, path_Ends_l0 es hl d (i + 1) k _ (by omega) (by omega) (by simp [ha]), List.drop_eq_getElem_cons hi]
    simp only [List.map_cons, List.append_assoc, List.singleton_append]
theorem path_Ends_eq (l : List S65) (hl : l.length ≤ 1000000) (ids : List Int) (hi : ids.length < 1000000) (k : Nat) (hk : l.length + ids.length + 1 < k) (frm : Int) : path_Ends.f k l ids frm = some (match endsP l ids frm with | some n => (n, true) | none => ([], false)) := by
  unfold path_Ends.f path_steps.f endsP
  rw [if_pos hi, path_asked_eq l hl k (by omega)]
  have hlen := stepsGo_len (byId l) ids frm []
  have ht : TimeP 0 := by unfold TimeP; omega
  have hz : SizeP 0 := by unfold SizeP; omega
  simp only [Option.bind_some, decide_eq_true_eq, ht, hz, true_and]
  by_cases hn : NodeP frm <;> by_cases hr : RightL l <;> by_cases hs : (stepsGo (byId l) ids frm []).2 = true <;> simp [hn, hr, hs]
  have := path_Ends_l0 (stepsGo (byId l) ids frm []).1 (by simp at hlen; omega) (stepsGo (byId l) ids frm []).1.length 0 k [frm] (by omega) (by simp at hlen; omega) rfl
  rw [show ((0 : Nat) : Int) = 0 from rfl] at this
  rw [this]
  simp
theorem view_From_l0 (node : Int) (l : List S65) (hl : l.length ≤ 1000000) : ∀ (d i k : Nat) (acc : List S65), i + d = l.length → d < k → acc.length ≤ i →
    view_From.l0 k node acc l (l.length : Int) (i : Int) = some (acc ++ (l.drop i).filter (fun e => decide (e.f1 = node)))
  | 0, i, k, acc, hd, hk, ha => by
    obtain ⟨k, rfl⟩ : ∃ m, k = m + 1 := ⟨k - 1, by omega⟩
    rw [view_From.l0, if_neg (by omega), List.drop_eq_nil_of_le (by omega)]
    simp
  | d + 1, i, k, acc, hd, hk, ha => by
    obtain ⟨k, rfl⟩ : ∃ m, k = m + 1 := ⟨k - 1, by omega⟩
    have hi : i < l.length := by omega
    rw [view_From.l0, if_pos (by omega), if_pos (by omega), if_pos (by omega), rd65 l i hi, wrap_succ i hi hl, List.drop_eq_getElem_cons hi]
    by_cases he : l[i].f1 = node
    · rw [if_pos he, if_pos (by omega), view_From_l0 node l hl d (i + 1) k _ (by omega) (by omega) (by simp; omega), List.filter_cons_of_pos (by simp [he]), List.append_assoc]
      rfl
    · rw [if_neg he, view_From_l0 node l hl d (i + 1) k _ (by omega) (by omega) (by omega), List.filter_cons_of_neg (by simp [he])]
theorem view_From_eq (l : List S65) (hl : l.length ≤ 1000000) (k : Nat) (hk : l.length < k) (node : Int) : view_From.f k l node = some (l.filter (fun e => decide (e.f1 = node))) := by
  unfold view_From.f
  have := view_From_l0 node l hl l.length 0 k [] (by omega) hk (by simp)
  rw [show ((0 : Nat) : Int) = 0 from rfl] at this
  rw [this]
  simp
theorem slices_Index_l0 (l : List Int) (hl : l.length ≤ 1000000) (x : Int) : ∀ (d i k : Nat), i + d = l.length → d < k →
    ∃ r, slices_Index_int_int.l0 k l x (l.length : Int) (i : Int) = some r ∧ (r ≥ 0 ↔ x ∈ l.drop i)
  | 0, i, k, hd, hk => by
    obtain ⟨k, rfl⟩ : ∃ m, k = m + 1 := ⟨k - 1, by omega⟩
    refine ⟨-1, ?_, ?_⟩
    · rw [slices_Index_int_int.l0, if_neg (by omega)]
    · rw [List.drop_eq_nil_of_le (by omega)]; simp
  | d + 1, i, k, hd, hk => by
    obtain ⟨k, rfl⟩ : ∃ m, k = m + 1 := ⟨k - 1, by omega⟩
    have hi : i < l.length := by omega
    obtain ⟨r, hr, hiff⟩ := slices_Index_l0 l hl x d (i + 1) k (by omega) (by omega)
    by_cases he : x = l[i]
    · refine ⟨i, ?_, ?_⟩
      · rw [slices_Index_int_int.l0, if_pos (by omega), if_pos (by omega), if_pos (by omega), rdI l i hi, if_pos he]
      · rw [List.drop_eq_getElem_cons hi, he]
        exact ⟨fun _ => List.mem_cons_self, fun _ => by omega⟩
    · refine ⟨r, ?_, ?_⟩
      · rw [slices_Index_int_int.l0, if_pos (by omega), if_pos (by omega), if_pos (by omega), rdI l i hi, if_neg he, wrap_succ i hi hl, hr]
      · rw [hiff, List.drop_eq_getElem_cons hi, List.mem_cons]
        exact ⟨.inr, fun h => h.resolve_left he⟩
theorem slices_Contains_eq (l : List Int) (hl : l.length ≤ 1000000) (k : Nat) (hk : l.length < k) (x : Int) : slices_Contains_int_int.f k l x = some (decide (x ∈ l)) := by
  unfold slices_Contains_int_int.f slices_Index_int_int.f
  obtain ⟨r, hr, hiff⟩ := slices_Index_l0 l hl x l.length 0 k (by omega) hk
  rw [show ((0 : Nat) : Int) = 0 from rfl] at hr
  rw [hr]
  simp only [Option.bind_some]
  congr 1
  rw [decide_eq_decide, hiff]
  simp
def atT : List S71 → Int → Option Int
  | [], _ => none
  | r :: l, n => if r.f0 = n then some r.f1 else atT l n
theorem early_At_l0 (n : Int) (l : List S71) (hl : l.length ≤ 1000000) : ∀ (d i k : Nat), i + d = l.length → d < k →
    early_At.l0 k n l (l.length : Int) (i : Int) = some (match atT (l.drop i) n with | some t => (t, true) | none => (0, false))
  | 0, i, k, hd, hk => by
    obtain ⟨k, rfl⟩ : ∃ m, k = m + 1 := ⟨k - 1, by omega⟩
    rw [early_At.l0, if_neg (by omega), List.drop_eq_nil_of_le (by omega)]
    rfl
  | d + 1, i, k, hd, hk => by
    obtain ⟨k, rfl⟩ : ∃ m, k = m + 1 := ⟨k - 1, by omega⟩
    have hi : i < l.length := by omega
    rw [early_At.l0, if_pos (by omega), if_pos (by omega), if_pos (by omega), rd71 l i hi, wrap_succ i hi hl, List.drop_eq_getElem_cons hi]
    simp only [atT]
    by_cases he : l[i].f0 = n
    · rw [if_pos he, if_pos he]
    · rw [if_neg he, if_neg he, early_At_l0 n l hl d (i + 1) k (by omega) (by omega)]
theorem early_At_eq (l : List S71) (hl : l.length ≤ 1000000) (k : Nat) (hk : l.length < k) (n : Int) : early_At.f k l n = some (match atT l n with | some t => (t, true) | none => (0, false)) := by
  unfold early_At.f
  have := early_At_l0 n l hl l.length 0 k (by omega) hk
  rw [show ((0 : Nat) : Int) = 0 from rfl] at this
  rw [this]
  simp
theorem path_IDs_l0 (l : List S56) (hl : l.length ≤ 1000000) : ∀ (d i k : Nat) (acc : List Int), i + d = l.length → d < k → acc.length = i →
    path_IDs.l0 k acc l (l.length : Int) (i : Int) = some (acc ++ (l.drop i).map (·.f0))
  | 0, i, k, acc, hd, hk, ha => by
    obtain ⟨k, rfl⟩ : ∃ m, k = m + 1 := ⟨k - 1, by omega⟩
    rw [path_IDs.l0, if_neg (by omega), List.drop_eq_nil_of_le (by omega)]
    simp
  | d + 1, i, k, acc, hd, hk, ha => by
    obtain ⟨k, rfl⟩ : ∃ m, k = m + 1 := ⟨k - 1, by omega⟩
    have hi : i < l.length := by omega
    rw [path_IDs.l0, if_pos (by omega), if_pos (by omega), if_pos (by omega), if_pos (by omega), rd56 l i hi, wrap_succ i hi hl, path_IDs_l0 l hl d (i + 1) k _ (by omega) (by omega) (by simp [ha]), List.drop_eq_getElem_cons hi]
    simp only [List.map_cons, List.append_assoc, List.singleton_append]
theorem path_IDs_eq (l : List S56) (hl : l.length ≤ 1000000) (k : Nat) (hk : l.length < k) (x : Int) : path_IDs.f k l x = some (l.map (·.f0)) := by
  unfold path_IDs.f
  have := path_IDs_l0 l hl l.length 0 k [] (by omega) hk rfl
  rw [show ((0 : Nat) : Int) = 0 from rfl] at this
  rw [this]
  simp
end Go.Proofs.Ytijflnpgiegajaa.Q
end
section
namespace Go.Proofs.Ytijflnpgiegajaa.Q
open Go.RowKit Go.Proofs.YtijflnpgiegajaaW.PrintWords Go.Proofs.YtijflnpgiegajaaW.PrintLast Go.Proofs.YtijflnpgiegajaaW.PrintMore Go.Proofs.Ytijflnpgiegajaa.IM Go.Proofs.Ytijflnpgiegajaa.Ev
set_option linter.unusedVariables false
set_option linter.unusedSimpArgs false
def laterM (m : List (Int × Int)) (n t : Int) : List (Int × Int) := match aget m n with
  | none => aset m n t
  | some had => if t > had then aset m n t else m
def stepE (T : List (Int × Int)) (dst size : Int) (shut : List Int) (next : List (Int × Int)) (e : S65) : List (Int × Int) := match aget T e.f2 with
  | none => next
  | some by_ => if e.f1 = dst ∨ (e.f2 ≠ dst ∧ e.f2 ∈ shut) then next else if LateP e by_ size then laterM next e.f1 (lateAt e by_ size) else next
def stepT (l : List S65) (dst size : Int) (shut : List Int) (T : List (Int × Int)) : List (Int × Int) := l.foldl (stepE T dst size shut) T
def Agree (t T : List (Int × Int)) : Prop := ∀ n, aget t n = aget T n
theorem Agree.later {t T : List (Int × Int)} (h : Agree t T) (n x : Int) : Agree (laterM t n x) (laterM T n x) := fun j => by
  unfold laterM
  rw [h n]
  cases aget T n with
  | none => simp only [aget_aset, h j]
  | some had =>
    simp only
    split
    · simp only [aget_aset, h j]
    · exact h j
theorem Agree.stepE {t T t0 T0 : List (Int × Int)} (h : Agree t T) (h0 : Agree t0 T0) (dst size : Int) (shut : List Int) (e : S65) : Agree (stepE t0 dst size shut t e) (stepE T0 dst size shut T e) := by
  unfold Q.stepE
  rw [h0 e.f2]
  cases aget T0 e.f2 with
  | none => exact h
  | some by_ =>
    simp only
    split
    · exact h
    · split
      · exact h.later _ _
      · exact h
theorem zero3 : (Try.prog.info? 3).map (fun i => i.zero) = some (some (Value.int .i64 0)) := by
  have h := info3
  cases hq : Try.prog.info? 3 with
  | none => simp [hq] at h
  | some i => simp [hq] at h; simp [h.1]
set_option maxHeartbeats 8000000 in
set_option maxRecDepth 100000 in
theorem later_calls (b : Nat) (t : List (Int × Int)) (n x : Int) (w : World) (H : IMap w b (t.map fun p => (p.1, Value.int .i64 p.2))) :
    Calls Try.prog 79 #[.map (some b), .int .i64 n, .int .i64 x] w fun e w' => e = .returned (.tuple #[]) ∧ IMap w' b ((laterM t n x).map fun p => (p.1, Value.int .i64 p.2)) ∧ w.grownBy w' (some b) ∧ w'.heap.size = w.heap.size := by
  have HM := Aside0.mk H
  clear H
  have hgr : w.grownBy w (some b) := ⟨rfl, rfl, rfl, Nat.le_refl _, fun _ _ _ => rfl⟩
  have HG := Aside0.mk hgr
  clear hgr
  go_enter Try.func79, Try.ntmps79
  cases hg : aget t n with
  | none =>
    have HA := Aside0.mk hg
    have hl : laterM t n x = aset t n x := by unfold laterM; rw [hg]
    have HL := Aside0.mk hl
    clear hg hl
    go_wp2_with (first
      | (at_lookup; go_loud (refine im_look2 (Value.int .i64) 0 11 rfl rfl rfl Try.underlying89 Try.underlying3 zero3 b t n rfl rfl HM.out ?_); rw [HA.out])
      | (at_mapUpdate; go_loud (refine im_store (Value.int .i64) rfl rfl rfl Try.underlying89 Try.underlying3 b t n x rfl rfl rfl HM.out ?_); intro w2 hm2 hg2 hs2; have HM2 := Aside0.mk hm2; have HG2 := Aside0.mk hg2; have HS2 := Aside0.mk hs2; clear hm2 hg2 hs2))
    go_end0
    exact ⟨rfl, by rw [HL.out]; exact HM2.out, HG2.out, HS2.out⟩
  | some had =>
    have HA := Aside0.mk hg
    by_cases hc : x > had
    · have hl : laterM t n x = aset t n x := by unfold laterM; rw [hg]; simp [hc]
      have HL := Aside0.mk hl
      have hlt : had < x := hc
      clear hg hl hc
      go_wp2_with (first
        | (at_lookup; go_loud (refine im_look2 (Value.int .i64) 0 11 rfl rfl rfl Try.underlying89 Try.underlying3 zero3 b t n rfl rfl HM.out ?_); rw [HA.out])
        | (at_mapUpdate; go_loud (refine im_store (Value.int .i64) rfl rfl rfl Try.underlying89 Try.underlying3 b t n x rfl rfl rfl HM.out ?_); intro w2 hm2 hg2 hs2; have HM2 := Aside0.mk hm2; have HG2 := Aside0.mk hg2; have HS2 := Aside0.mk hs2; clear hm2 hg2 hs2))
      go_end0
      exact ⟨rfl, by rw [HL.out]; exact HM2.out, HG2.out, HS2.out⟩
    · have hl : laterM t n x = t := by unfold laterM; rw [hg]; simp [hc]
      have HL := Aside0.mk hl
      have hlt : x ≤ had := by omega
      clear hg hl hc
      go_wp2_with (first
        | (at_lookup; go_loud (refine im_look2 (Value.int .i64) 0 11 rfl rfl rfl Try.underlying89 Try.underlying3 zero3 b t n rfl rfl HM.out ?_); rw [HA.out])
        | (at_mapUpdate; go_loud (refine im_store (Value.int .i64) rfl rfl rfl Try.underlying89 Try.underlying3 b t n x rfl rfl rfl HM.out ?_); intro w2 hm2 hg2 hs2; have HM2 := Aside0.mk hm2; have HG2 := Aside0.mk hg2; have HS2 := Aside0.mk hs2; clear hm2 hg2 hs2))
      go_end0
      exact ⟨rfl, by rw [HL.out]; exact HM.out, HG.out, rfl⟩
def TMap (w : World) (b : Nat) (T : List (Int × Int)) : Prop := ∃ t, Agree t T ∧ IMap w b (t.map fun p => (p.1, Value.int .i64 p.2))
def Copied (m t : List (Int × Int)) (left : List Int) : Prop := ∀ n, aget m n = if n ∈ left then none else aget t n
theorem copied_step {m t : List (Int × Int)} {left : List Int} {k v : Int} (h : Copied m t left) (hn : left.Nodup) (hk : k ∈ left) (hv : aget t k = some v) : Copied (aset m k v) t (left.erase k) := fun n => by
  rw [aget_aset, h n]
  by_cases he : k = n
  · subst he
    rw [if_pos rfl, if_neg (by rw [hn.mem_erase_iff]; exact fun g => g.1 rfl), hv]
  · rw [if_neg he]
    have : n ∈ left.erase k ↔ n ∈ left := by rw [hn.mem_erase_iff]; exact ⟨fun g => g.2, fun g => ⟨fun e => he e.symm, g⟩⟩
    simp only [this]
theorem aget_enc (t : List (Int × Int)) (k : Int) : aget (t.map fun p => (p.1, Value.int .i64 p.2)) k = (aget t k).map (Value.int .i64) := by
  induction t with
  | nil => rfl
  | cons p r ih => simp only [List.map_cons, aget]; split <;> simp_all
theorem foldl_take_snoc {α β : Type} (f : β → α → β) (l : List α) (i : Nat) (h : i < l.length) (z : β) : (l.take (i + 1)).foldl f z = f ((l.take i).foldl f z) l[i] := by
  rw [List.take_succ_eq_append_getElem h, List.foldl_append]
  rfl
set_option maxHeartbeats 8000000 in
set_option maxRecDepth 100000 in
theorem step_calls (b : Nat) (T : List (Int × Int)) (A0 : Option Addr) (c0 : Nat) (l0 : List S65) (dst size : Int) (A1 : Option Addr) (c1 : Nat) (sh : List Int) (w : World) (HT : TMap w b T)
    (hr0 : Kd.C k65 w A0 l0.length l0) (hc0 : l0.length ≤ c0) (hr1 : Kd.C (Kd.int .i64) w A1 sh.length sh) (hc1 : sh.length ≤ c1) (hsl : sh.length ≤ 1000000) :
    Calls Try.prog 53 #[.map (some b), .slice A0 l0.length c0, .int .i64 dst, .int .i64 size, .slice A1 sh.length c1] w fun e w' => ∃ b' : Nat, e = .returned (.map (some b')) ∧ w.heap.size ≤ b' ∧ TMap w' b' (stepT l0 dst size sh T) ∧ Below w.heap.size w w' := by
  obtain ⟨t, hag, H⟩ := HT
  have hl0 := hr0.2.1
  have HR0 := Aside0.mk hr0
  have HR1 := Aside0.mk hr1
  have HC1 := Aside0.mk hc1
  have HM := Aside0.mk H
  have HBT := Aside0.mk H.lt
  have HAG := Aside0.mk hag
  have hnd := H.nodup
  rw [List.map_map] at hnd
  have HND := Aside0.mk (show (t.map (·.1)).Nodup from hnd)
  have HB := Aside0.mk (Below.refl w.heap.size w)
  clear hr0 hr1 H hag hnd hc0 hc1
  go_enter Try.func53, Try.ntmps53
  go_wp2_with (first
    | ((with_reducible refine gate_dst (N := 20) rfl ?_); refine im_make 20 rfl rfl rfl ?_; intro b2 w1 hb hm hbw hs; have HGE := Aside0.mk (Nat.le_of_eq hb.symm); have HBNE := Aside0.mk (show b ≠ b2 from fun e => by have := HBT.out; omega); have HM1 := Aside0.mk hm; have HM0 := Aside0.mk (HM.out.below hbw); have HB1 := Aside0.mk (below_step HB.out hbw); clear hm hbw hs hb HB HM)
    | ((with_reducible refine gate_dst (N := 22) rfl ?_); go_loud (refine im_range 22 rfl rfl rfl Try.underlying89 b (t.map fun p => (p.1, Value.int .i64 p.2)) rfl HM0.out ?_); intro r w2 hr hrg hbw hs; have HGR := Aside0.mk (show w.heap.size ≤ r from Nat.le_trans HB1.out.size (Nat.le_of_eq hr.symm)); have HNE := Aside0.mk (show b2 ≠ r from fun e => by have := HM1.out.lt; omega); have HRG := Aside0.mk hrg; have HM2 := Aside0.mk (HM1.out.below hbw); have HB2 := Aside0.mk (below_step HB1.out hbw); clear hrg hbw hs hr HB1 HM1 HM0))
  go_frame
  go_loopg [12, 13, 23] (t.map (·.1)).length (fun kq _ _ _ w' => ∃ (left : List Int) (m : List (Int × Int)), Aside0 (left.length = kq) ∧ Aside0 left.Nodup ∧ Aside0 (IRange w' b r (t.map fun p => (p.1, Value.int .i64 p.2)) left) ∧ Aside0 (IMap w' b2 (m.map fun p => (p.1, Value.int .i64 p.2))) ∧ Aside0 (Copied m t left) ∧ Aside0 (Below w.heap.size w w'))
  case atStart => exact ⟨t.map (·.1), [], ⟨rfl⟩, HND, ⟨by have := HRG.out; rw [List.map_map] at this; exact this⟩, HM2, ⟨fun n => by
    by_cases hn : n ∈ t.map (·.1)
    · simp [aget, hn]
    · rw [if_neg hn, aget_none.2 hn]; rfl⟩, HB2⟩
  case round =>
    clear HRG HM2 HB2
    obtain ⟨left, m, HLL, HLN, HRG, HM2, HCP, HB2⟩ := hrel
    go_wp2_with (first
      | ((with_reducible refine gate_dst (N := 23) rfl ?_); go_loud (refine im_next 23 rfl rfl rfl b r (t.map fun p => (p.1, Value.int .i64 p.2)) left rfl HRG.out ?_ ?_)))
    · intro h0
      have hCP := HCP.out
      rw [h0] at hCP
      have hA2 : Agree m t := fun n => by rw [hCP n]; simp
      have HA2 := Aside0.mk (show Agree m T from fun n => (hA2 n).trans (HAG.out n))
      have HMb := Aside0.mk HRG.out.imap
      clear h0 hCP hA2 HCP HRG HLL HLN
      go_wp2
      go_loopg [15, 16, 17, 18, 19, 33] l0.length (fun kq _ _ _ _ _ v33 w' => ∃ (i : Nat) (m : List (Int × Int)), v33 = .int .i64 (i : Int) ∧ Aside0 (i + kq = l0.length) ∧ Aside0 (Agree m ((l0.take i).foldl (stepE T dst size sh) T)) ∧ Aside0 (IMap w' b2 (m.map fun p => (p.1, Value.int .i64 p.2))) ∧ Aside0 (IMap w' b (t.map fun p => (p.1, Value.int .i64 p.2))) ∧ Aside0 (Below w.heap.size w w'))
      case atStart => exact ⟨0, m, rfl, ⟨by omega⟩, HA2, HM2, HMb, HB2⟩
      case round =>
        clear HA2 HM2 HMb HB2
        obtain ⟨i, m, rfl, HI, HA2, HM2, HMb, HB2⟩ := hrel
        cases gk with
        | zero =>
          have hi : ¬ ((i : Nat) : Int) < (l0.length : Int) := by have := HI.out; omega
          have hA := HA2.out
          rw [List.take_of_length_le (by have := HI.out; omega)] at hA
          have HAZ := Aside0.mk (show Agree m (stepT l0 dst size sh T) from hA)
          clear hA HA2 HI
          go_wp2
          go_ret
          exact ⟨b2, rfl, HGE.out, ⟨m, HAZ.out, HM2.out⟩, HB2.out⟩
        | succ k1 =>
          have hi : i < l0.length := by have := HI.out; omega
          have p0 : 0 ≤ ((i : Nat) : Int) := by omega
          have p1 : ((i : Nat) : Int) < (l0.length : Int) := by omega
          obtain ⟨ad, e0, hx0, hx1, hx2, hx3, hx4, hx5, hx6, hx7⟩ := at_T65 HR0.out (i : Int) p0 p1
          cases e0
          rw [Int.toNat_natCast] at hx0 hx1 hx2 hx3 hx4 hx5 hx6 hx7
          replace hx0 := pw_cell_below HB2.out hx0
          replace hx1 := pw_cell_below HB2.out hx1
          replace hx2 := pw_cell_below HB2.out hx2
          replace hx3 := pw_cell_below HB2.out hx3
          replace hx4 := pw_cell_below HB2.out hx4
          replace hx5 := pw_cell_below HB2.out hx5
          replace hx6 := pw_cell_below HB2.out hx6
          replace hx7 := pw_cell_below HB2.out hx7
          have hsn := foldl_take_snoc (stepE T dst size sh) l0 i hi T
          rw [← rd65 l0 i hi] at hsn
          obtain ⟨ed, Hed⟩ : ∃ ed, ed = rd_T65 l0 (i : Int) := ⟨_, rfl⟩
          rw [← Hed] at hx0 hx1 hx2 hx3 hx4 hx5 hx6 hx7 hsn
          clear Hed
          have hAS := HA2.out.stepE HAG.out dst size sh ed
          have hAS2 : Agree (stepE t dst size sh m ed) ((l0.take (i + 1)).foldl (stepE T dst size sh) T) := fun n => by rw [hsn]; exact hAS n
          have HAS := Aside0.mk hAS2
          clear hsn hAS hAS2 HA2
          cases hg : aget t ed.f2 with
          | none =>
            have HG := Aside0.mk hg
            have HS := Aside0.mk (show stepE t dst size sh m ed = m by unfold stepE; rw [hg])
            clear hg
            go_wp2_with (first
              | ((with_reducible refine gate_dst (N := 15) rfl ?_); go_loud (refine box2 15 rfl rfl rfl rfl rfl rfl #[.int .i64 ed.f0, .int .i64 ed.f1, .int .i64 ed.f2, .int .i64 ed.f3, .int .i64 ed.f4, .int .i64 ed.f5, .int .i64 ed.f6, .int .i64 ed.f7] info65 rfl rfl (by simp [Value.oneCell']) (by first | (go_simp; done) | (go_simp; rfl)) (by first | (go_simp; done) | (go_simp; rfl)) ?_); intro g w5 hg hblk hbw hs; have HM5 := Aside0.mk (HM2.out.below hbw); have HMb5 := Aside0.mk (HMb.out.below hbw); have HB5 := Aside0.mk (below_step HB2.out hbw); have HK := Aside0.mk hblk; have y0 := (blk_cell hblk 0).trans rfl; have y1 := (blk_cell hblk 1).trans rfl; have y2 := (blk_cell hblk 2).trans rfl; have y3 := (blk_cell hblk 3).trans rfl; have y4 := (blk_cell hblk 4).trans rfl; have y5 := (blk_cell hblk 5).trans rfl; have y6 := (blk_cell hblk 6).trans rfl; have y7 := (blk_cell hblk 7).trans rfl; clear hg hblk hbw hs HM2 HMb HB2 hx0 hx1 hx2 hx3 hx4 hx5 hx6 hx7)
              | (at_lookup; go_loud (refine im_look2 (Value.int .i64) 0 41 rfl rfl rfl Try.underlying89 Try.underlying3 zero3 b t ed.f2 rfl rfl HMb5.out ?_); rw [HG.out]))
            go_roundg k1
            case measure => omega
            case rel => exact ⟨i + 1, m, by first | rfl | (simp; done) | (go_num; done), ⟨by have := HI.out; omega⟩, ⟨by have := HAS.out; rw [HS.out] at this; exact this⟩, HM5, HMb5, HB5⟩
          | some by_ =>
            have HG := Aside0.mk hg
            by_cases hd : ed.f1 = dst
            · have HS := Aside0.mk (show stepE t dst size sh m ed = m by unfold stepE; rw [hg]; simp [hd])
              have hd0 : (ed.f1 == dst) = true := beq_iff_eq.mpr hd
              clear hg hd
              go_wp2_with (first
                | ((with_reducible refine gate_dst (N := 15) rfl ?_); go_loud (refine box2 15 rfl rfl rfl rfl rfl rfl #[.int .i64 ed.f0, .int .i64 ed.f1, .int .i64 ed.f2, .int .i64 ed.f3, .int .i64 ed.f4, .int .i64 ed.f5, .int .i64 ed.f6, .int .i64 ed.f7] info65 rfl rfl (by simp [Value.oneCell']) (by first | (go_simp; done) | (go_simp; rfl)) (by first | (go_simp; done) | (go_simp; rfl)) ?_); intro g w5 hg hblk hbw hs; have HM5 := Aside0.mk (HM2.out.below hbw); have HMb5 := Aside0.mk (HMb.out.below hbw); have HB5 := Aside0.mk (below_step HB2.out hbw); have HK := Aside0.mk hblk; have y0 := (blk_cell hblk 0).trans rfl; have y1 := (blk_cell hblk 1).trans rfl; have y2 := (blk_cell hblk 2).trans rfl; have y3 := (blk_cell hblk 3).trans rfl; have y4 := (blk_cell hblk 4).trans rfl; have y5 := (blk_cell hblk 5).trans rfl; have y6 := (blk_cell hblk 6).trans rfl; have y7 := (blk_cell hblk 7).trans rfl; clear hg hblk hbw hs HM2 HMb HB2 hx0 hx1 hx2 hx3 hx4 hx5 hx6 hx7)
                | (at_lookup; go_loud (refine im_look2 (Value.int .i64) 0 41 rfl rfl rfl Try.underlying89 Try.underlying3 zero3 b t ed.f2 rfl rfl HMb5.out ?_); rw [HG.out]))
              go_roundg k1
              case measure => omega
              case rel => exact ⟨i + 1, m, by first | rfl | (simp; done) | (go_num; done), ⟨by have := HI.out; omega⟩, ⟨by have := HAS.out; rw [HS.out] at this; exact this⟩, HM5, HMb5, HB5⟩
            · have hd0 : (ed.f1 == dst) = false := beq_eq_false_iff_ne.mpr hd
              by_cases hd2 : ed.f2 = dst
              · have hd1 : (ed.f2 != dst) = false := bne_eq_false_iff_eq.mpr hd2
                have hsk : ¬ (ed.f1 = dst ∨ (ed.f2 ≠ dst ∧ ed.f2 ∈ sh)) := fun q => q.elim hd (fun q => q.1 hd2)
                clear hd hd2
                by_cases hlp : LateP ed by_ size
                · have HS := Aside0.mk (show stepE t dst size sh m ed = laterM m ed.f1 (lateAt ed by_ size) by unfold stepE; rw [hg]; simp only; rw [if_neg hsk, if_pos hlp])
                  have hlt := hop_Latest_eq 0 ed by_ size
                  rw [if_pos hlp] at hlt
                  have HLT := Aside0.mk hlt
                  clear hg hlp hlt hsk
                  go_wp2_with (first
                    | ((with_reducible refine gate_dst (N := 15) rfl ?_); go_loud (refine box2 15 rfl rfl rfl rfl rfl rfl #[.int .i64 ed.f0, .int .i64 ed.f1, .int .i64 ed.f2, .int .i64 ed.f3, .int .i64 ed.f4, .int .i64 ed.f5, .int .i64 ed.f6, .int .i64 ed.f7] info65 rfl rfl (by simp [Value.oneCell']) (by first | (go_simp; done) | (go_simp; rfl)) (by first | (go_simp; done) | (go_simp; rfl)) ?_); intro g w5 hg hblk hbw hs; have HM5 := Aside0.mk (HM2.out.below hbw); have HMb5 := Aside0.mk (HMb.out.below hbw); have HB5 := Aside0.mk (below_step HB2.out hbw); have HK := Aside0.mk hblk; have y0 := (blk_cell hblk 0).trans rfl; have y1 := (blk_cell hblk 1).trans rfl; have y2 := (blk_cell hblk 2).trans rfl; have y3 := (blk_cell hblk 3).trans rfl; have y4 := (blk_cell hblk 4).trans rfl; have y5 := (blk_cell hblk 5).trans rfl; have y6 := (blk_cell hblk 6).trans rfl; have y7 := (blk_cell hblk 7).trans rfl; clear hg hblk hbw hs HM2 HMb HB2 hx0 hx1 hx2 hx3 hx4 hx5 hx6 hx7)
                    | (at_lookup; go_loud (refine im_look2 (Value.int .i64) 0 41 rfl rfl rfl Try.underlying89 Try.underlying3 zero3 b t ed.f2 rfl rfl HMb5.out ?_); rw [HG.out])
                    | (go_at_call 78; go_loud (refine (hop_Latest.calls 1 ed.f0 ed.f1 ed.f2 ed.f3 ed.f4 ed.f5 ed.f6 ed.f7 by_ size (lateAt ed by_ size) true _ HLT.out).mono ?_); rintro e w7 ⟨rfl, hb⟩; have HM7 := Aside0.mk (HM5.out.below hb); have HMb7 := Aside0.mk (HMb5.out.below hb); have HB7 := Aside0.mk (below_step HB5.out hb); have HK7 := Aside0.mk (blk_below HK.out hb); have q0 := (blk_cell HK7.out 0).trans rfl; have q1 := (blk_cell HK7.out 1).trans rfl; have q2 := (blk_cell HK7.out 2).trans rfl; have q3 := (blk_cell HK7.out 3).trans rfl; have q4 := (blk_cell HK7.out 4).trans rfl; have q5 := (blk_cell HK7.out 5).trans rfl; have q6 := (blk_cell HK7.out 6).trans rfl; have q7 := (blk_cell HK7.out 7).trans rfl; clear hb y0 y1 y2 y3 y4 y5 y6 y7 HK HM5 HMb5 HB5)
                    | (go_at_call 79; go_loud (refine (later_calls b2 m ed.f1 (lateAt ed by_ size) _ HM7.out).mono ?_); rintro e w8 ⟨rfl, hm8, hg8, hs8⟩; have HM8 := Aside0.mk hm8; have HMb8 := Aside0.mk (HMb7.out.kept hg8 (fun e => by injection e with e; exact HBNE.out e)); have HB8 := Aside0.mk (below_grown_one HB7.out hg8 HGE.out); clear hm8 hg8 hs8 HM7 HMb7 HB7))
                  go_roundg k1
                  case measure => omega
                  case rel => exact ⟨i + 1, laterM m ed.f1 (lateAt ed by_ size), by first | rfl | (simp; done) | (go_num; done), ⟨by have := HI.out; omega⟩, ⟨by have := HAS.out; rw [HS.out] at this; exact this⟩, HM8, HMb8, HB8⟩
                · have HS := Aside0.mk (show stepE t dst size sh m ed = m by unfold stepE; rw [hg]; simp only; rw [if_neg hsk, if_neg hlp])
                  have hlt := hop_Latest_eq 0 ed by_ size
                  rw [if_neg hlp] at hlt
                  have HLT := Aside0.mk hlt
                  clear hg hlp hlt hsk
                  go_wp2_with (first
                    | ((with_reducible refine gate_dst (N := 15) rfl ?_); go_loud (refine box2 15 rfl rfl rfl rfl rfl rfl #[.int .i64 ed.f0, .int .i64 ed.f1, .int .i64 ed.f2, .int .i64 ed.f3, .int .i64 ed.f4, .int .i64 ed.f5, .int .i64 ed.f6, .int .i64 ed.f7] info65 rfl rfl (by simp [Value.oneCell']) (by first | (go_simp; done) | (go_simp; rfl)) (by first | (go_simp; done) | (go_simp; rfl)) ?_); intro g w5 hg hblk hbw hs; have HM5 := Aside0.mk (HM2.out.below hbw); have HMb5 := Aside0.mk (HMb.out.below hbw); have HB5 := Aside0.mk (below_step HB2.out hbw); have HK := Aside0.mk hblk; have y0 := (blk_cell hblk 0).trans rfl; have y1 := (blk_cell hblk 1).trans rfl; have y2 := (blk_cell hblk 2).trans rfl; have y3 := (blk_cell hblk 3).trans rfl; have y4 := (blk_cell hblk 4).trans rfl; have y5 := (blk_cell hblk 5).trans rfl; have y6 := (blk_cell hblk 6).trans rfl; have y7 := (blk_cell hblk 7).trans rfl; clear hg hblk hbw hs HM2 HMb HB2 hx0 hx1 hx2 hx3 hx4 hx5 hx6 hx7)
                    | (at_lookup; go_loud (refine im_look2 (Value.int .i64) 0 41 rfl rfl rfl Try.underlying89 Try.underlying3 zero3 b t ed.f2 rfl rfl HMb5.out ?_); rw [HG.out])
                    | (go_at_call 78; go_loud (refine (hop_Latest.calls 1 ed.f0 ed.f1 ed.f2 ed.f3 ed.f4 ed.f5 ed.f6 ed.f7 by_ size 0 false _ HLT.out).mono ?_); rintro e w7 ⟨rfl, hb⟩; have HM7 := Aside0.mk (HM5.out.below hb); have HMb7 := Aside0.mk (HMb5.out.below hb); have HB7 := Aside0.mk (below_step HB5.out hb); have HK7 := Aside0.mk (blk_below HK.out hb); have q0 := (blk_cell HK7.out 0).trans rfl; have q1 := (blk_cell HK7.out 1).trans rfl; have q2 := (blk_cell HK7.out 2).trans rfl; have q3 := (blk_cell HK7.out 3).trans rfl; have q4 := (blk_cell HK7.out 4).trans rfl; have q5 := (blk_cell HK7.out 5).trans rfl; have q6 := (blk_cell HK7.out 6).trans rfl; have q7 := (blk_cell HK7.out 7).trans rfl; clear hb y0 y1 y2 y3 y4 y5 y6 y7 HK HM5 HMb5 HB5))
                  go_roundg k1
                  case measure => omega
                  case rel => exact ⟨i + 1, m, by first | rfl | (simp; done) | (go_num; done), ⟨by have := HI.out; omega⟩, ⟨by have := HAS.out; rw [HS.out] at this; exact this⟩, HM7, HMb7, HB7⟩
              · have hd1 : (ed.f2 != dst) = true := bne_iff_ne.mpr hd2
                have hct := slices_Contains_eq sh hsl (sh.length + 1) (Nat.lt_succ_self _) ed.f2
                by_cases hin : ed.f2 ∈ sh
                · rw [decide_eq_true hin] at hct
                  have HCT := Aside0.mk hct
                  have HS := Aside0.mk (show stepE t dst size sh m ed = m by unfold stepE; rw [hg]; simp [hd2, hin])
                  clear hg hd hd2 hin hct
                  go_wp2_with (first
                    | ((with_reducible refine gate_dst (N := 15) rfl ?_); go_loud (refine box2 15 rfl rfl rfl rfl rfl rfl #[.int .i64 ed.f0, .int .i64 ed.f1, .int .i64 ed.f2, .int .i64 ed.f3, .int .i64 ed.f4, .int .i64 ed.f5, .int .i64 ed.f6, .int .i64 ed.f7] info65 rfl rfl (by simp [Value.oneCell']) (by first | (go_simp; done) | (go_simp; rfl)) (by first | (go_simp; done) | (go_simp; rfl)) ?_); intro g w5 hg hblk hbw hs; have HM5 := Aside0.mk (HM2.out.below hbw); have HMb5 := Aside0.mk (HMb.out.below hbw); have HB5 := Aside0.mk (below_step HB2.out hbw); have HK := Aside0.mk hblk; have y0 := (blk_cell hblk 0).trans rfl; have y1 := (blk_cell hblk 1).trans rfl; have y2 := (blk_cell hblk 2).trans rfl; have y3 := (blk_cell hblk 3).trans rfl; have y4 := (blk_cell hblk 4).trans rfl; have y5 := (blk_cell hblk 5).trans rfl; have y6 := (blk_cell hblk 6).trans rfl; have y7 := (blk_cell hblk 7).trans rfl; clear hg hblk hbw hs HM2 HMb HB2 hx0 hx1 hx2 hx3 hx4 hx5 hx6 hx7)
                    | (at_lookup; go_loud (refine im_look2 (Value.int .i64) 0 41 rfl rfl rfl Try.underlying89 Try.underlying3 zero3 b t ed.f2 rfl rfl HMb5.out ?_); rw [HG.out])
                    | (go_at_call 56; go_loud (refine (slices_Contains_int_int.calls (sh.length + 1) A1 c1 sh ed.f2 true _ (Kd.C_below HR1.out HB5.out) HC1.out HCT.out).mono ?_); rintro e w6 ⟨rfl, hb⟩; have HM6 := Aside0.mk (HM5.out.below hb.below); have HMb6 := Aside0.mk (HMb5.out.below hb.below); have HB6 := Aside0.mk (below_step HB5.out hb.below); have HK6 := Aside0.mk (blk_below HK.out hb.below); have z0 := (blk_cell HK6.out 0).trans rfl; have z1 := (blk_cell HK6.out 1).trans rfl; have z2 := (blk_cell HK6.out 2).trans rfl; have z3 := (blk_cell HK6.out 3).trans rfl; have z4 := (blk_cell HK6.out 4).trans rfl; have z5 := (blk_cell HK6.out 5).trans rfl; have z6 := (blk_cell HK6.out 6).trans rfl; have z7 := (blk_cell HK6.out 7).trans rfl; clear hb y0 y1 y2 y3 y4 y5 y6 y7 HK HM5 HMb5 HB5))
                  go_roundg k1
                  case measure => omega
                  case rel => exact ⟨i + 1, m, by first | rfl | (simp; done) | (go_num; done), ⟨by have := HI.out; omega⟩, ⟨by have := HAS.out; rw [HS.out] at this; exact this⟩, HM6, HMb6, HB6⟩
                · rw [decide_eq_false hin] at hct
                  have HCT := Aside0.mk hct
                  have hsk : ¬ (ed.f1 = dst ∨ (ed.f2 ≠ dst ∧ ed.f2 ∈ sh)) := fun q => q.elim hd (fun q => hin q.2)
                  clear hd hd2 hin hct
                  by_cases hlp : LateP ed by_ size
                  · have HS := Aside0.mk (show stepE t dst size sh m ed = laterM m ed.f1 (lateAt ed by_ size) by unfold stepE; rw [hg]; simp only; rw [if_neg hsk, if_pos hlp])
                    have hlt := hop_Latest_eq 0 ed by_ size
                    rw [if_pos hlp] at hlt
                    have HLT := Aside0.mk hlt
                    clear hg hlp hlt hsk
                    go_wp2_with (first
                      | ((with_reducible refine gate_dst (N := 15) rfl ?_); go_loud (refine box2 15 rfl rfl rfl rfl rfl rfl #[.int .i64 ed.f0, .int .i64 ed.f1, .int .i64 ed.f2, .int .i64 ed.f3, .int .i64 ed.f4, .int .i64 ed.f5, .int .i64 ed.f6, .int .i64 ed.f7] info65 rfl rfl (by simp [Value.oneCell']) (by first | (go_simp; done) | (go_simp; rfl)) (by first | (go_simp; done) | (go_simp; rfl)) ?_); intro g w5 hg hblk hbw hs; have HM5 := Aside0.mk (HM2.out.below hbw); have HMb5 := Aside0.mk (HMb.out.below hbw); have HB5 := Aside0.mk (below_step HB2.out hbw); have HK := Aside0.mk hblk; have y0 := (blk_cell hblk 0).trans rfl; have y1 := (blk_cell hblk 1).trans rfl; have y2 := (blk_cell hblk 2).trans rfl; have y3 := (blk_cell hblk 3).trans rfl; have y4 := (blk_cell hblk 4).trans rfl; have y5 := (blk_cell hblk 5).trans rfl; have y6 := (blk_cell hblk 6).trans rfl; have y7 := (blk_cell hblk 7).trans rfl; clear hg hblk hbw hs HM2 HMb HB2 hx0 hx1 hx2 hx3 hx4 hx5 hx6 hx7)
                      | (at_lookup; go_loud (refine im_look2 (Value.int .i64) 0 41 rfl rfl rfl Try.underlying89 Try.underlying3 zero3 b t ed.f2 rfl rfl HMb5.out ?_); rw [HG.out])
                      | (go_at_call 56; go_loud (refine (slices_Contains_int_int.calls (sh.length + 1) A1 c1 sh ed.f2 false _ (Kd.C_below HR1.out HB5.out) HC1.out HCT.out).mono ?_); rintro e w6 ⟨rfl, hb⟩; have HM6 := Aside0.mk (HM5.out.below hb.below); have HMb6 := Aside0.mk (HMb5.out.below hb.below); have HB6 := Aside0.mk (below_step HB5.out hb.below); have HK6 := Aside0.mk (blk_below HK.out hb.below); have z0 := (blk_cell HK6.out 0).trans rfl; have z1 := (blk_cell HK6.out 1).trans rfl; have z2 := (blk_cell HK6.out 2).trans rfl; have z3 := (blk_cell HK6.out 3).trans rfl; have z4 := (blk_cell HK6.out 4).trans rfl; have z5 := (blk_cell HK6.out 5).trans rfl; have z6 := (blk_cell HK6.out 6).trans rfl; have z7 := (blk_cell HK6.out 7).trans rfl; clear hb y0 y1 y2 y3 y4 y5 y6 y7 HK HM5 HMb5 HB5)
                      | (go_at_call 78; go_loud (refine (hop_Latest.calls 1 ed.f0 ed.f1 ed.f2 ed.f3 ed.f4 ed.f5 ed.f6 ed.f7 by_ size (lateAt ed by_ size) true _ HLT.out).mono ?_); rintro e w7 ⟨rfl, hb⟩; have HM7 := Aside0.mk (HM6.out.below hb); have HMb7 := Aside0.mk (HMb6.out.below hb); have HB7 := Aside0.mk (below_step HB6.out hb); have HK7 := Aside0.mk (blk_below HK6.out hb); have q0 := (blk_cell HK7.out 0).trans rfl; have q1 := (blk_cell HK7.out 1).trans rfl; have q2 := (blk_cell HK7.out 2).trans rfl; have q3 := (blk_cell HK7.out 3).trans rfl; have q4 := (blk_cell HK7.out 4).trans rfl; have q5 := (blk_cell HK7.out 5).trans rfl; have q6 := (blk_cell HK7.out 6).trans rfl; have q7 := (blk_cell HK7.out 7).trans rfl; clear hb z0 z1 z2 z3 z4 z5 z6 z7 HK6 HM6 HMb6 HB6)
                      | (go_at_call 79; go_loud (refine (later_calls b2 m ed.f1 (lateAt ed by_ size) _ HM7.out).mono ?_); rintro e w8 ⟨rfl, hm8, hg8, hs8⟩; have HM8 := Aside0.mk hm8; have HMb8 := Aside0.mk (HMb7.out.kept hg8 (fun e => by injection e with e; exact HBNE.out e)); have HB8 := Aside0.mk (below_grown_one HB7.out hg8 HGE.out); clear hm8 hg8 hs8 HM7 HMb7 HB7))
                    go_roundg k1
                    case measure => omega
                    case rel => exact ⟨i + 1, laterM m ed.f1 (lateAt ed by_ size), by first | rfl | (simp; done) | (go_num; done), ⟨by have := HI.out; omega⟩, ⟨by have := HAS.out; rw [HS.out] at this; exact this⟩, HM8, HMb8, HB8⟩
                  · have HS := Aside0.mk (show stepE t dst size sh m ed = m by unfold stepE; rw [hg]; simp only; rw [if_neg hsk, if_neg hlp])
                    have hlt := hop_Latest_eq 0 ed by_ size
                    rw [if_neg hlp] at hlt
                    have HLT := Aside0.mk hlt
                    clear hg hlp hlt hsk
                    go_wp2_with (first
                      | ((with_reducible refine gate_dst (N := 15) rfl ?_); go_loud (refine box2 15 rfl rfl rfl rfl rfl rfl #[.int .i64 ed.f0, .int .i64 ed.f1, .int .i64 ed.f2, .int .i64 ed.f3, .int .i64 ed.f4, .int .i64 ed.f5, .int .i64 ed.f6, .int .i64 ed.f7] info65 rfl rfl (by simp [Value.oneCell']) (by first | (go_simp; done) | (go_simp; rfl)) (by first | (go_simp; done) | (go_simp; rfl)) ?_); intro g w5 hg hblk hbw hs; have HM5 := Aside0.mk (HM2.out.below hbw); have HMb5 := Aside0.mk (HMb.out.below hbw); have HB5 := Aside0.mk (below_step HB2.out hbw); have HK := Aside0.mk hblk; have y0 := (blk_cell hblk 0).trans rfl; have y1 := (blk_cell hblk 1).trans rfl; have y2 := (blk_cell hblk 2).trans rfl; have y3 := (blk_cell hblk 3).trans rfl; have y4 := (blk_cell hblk 4).trans rfl; have y5 := (blk_cell hblk 5).trans rfl; have y6 := (blk_cell hblk 6).trans rfl; have y7 := (blk_cell hblk 7).trans rfl; clear hg hblk hbw hs HM2 HMb HB2 hx0 hx1 hx2 hx3 hx4 hx5 hx6 hx7)
                      | (at_lookup; go_loud (refine im_look2 (Value.int .i64) 0 41 rfl rfl rfl Try.underlying89 Try.underlying3 zero3 b t ed.f2 rfl rfl HMb5.out ?_); rw [HG.out])
                      | (go_at_call 56; go_loud (refine (slices_Contains_int_int.calls (sh.length + 1) A1 c1 sh ed.f2 false _ (Kd.C_below HR1.out HB5.out) HC1.out HCT.out).mono ?_); rintro e w6 ⟨rfl, hb⟩; have HM6 := Aside0.mk (HM5.out.below hb.below); have HMb6 := Aside0.mk (HMb5.out.below hb.below); have HB6 := Aside0.mk (below_step HB5.out hb.below); have HK6 := Aside0.mk (blk_below HK.out hb.below); have z0 := (blk_cell HK6.out 0).trans rfl; have z1 := (blk_cell HK6.out 1).trans rfl; have z2 := (blk_cell HK6.out 2).trans rfl; have z3 := (blk_cell HK6.out 3).trans rfl; have z4 := (blk_cell HK6.out 4).trans rfl; have z5 := (blk_cell HK6.out 5).trans rfl; have z6 := (blk_cell HK6.out 6).trans rfl; have z7 := (blk_cell HK6.out 7).trans rfl; clear hb y0 y1 y2 y3 y4 y5 y6 y7 HK HM5 HMb5 HB5)
                      | (go_at_call 78; go_loud (refine (hop_Latest.calls 1 ed.f0 ed.f1 ed.f2 ed.f3 ed.f4 ed.f5 ed.f6 ed.f7 by_ size 0 false _ HLT.out).mono ?_); rintro e w7 ⟨rfl, hb⟩; have HM7 := Aside0.mk (HM6.out.below hb); have HMb7 := Aside0.mk (HMb6.out.below hb); have HB7 := Aside0.mk (below_step HB6.out hb); have HK7 := Aside0.mk (blk_below HK6.out hb); have q0 := (blk_cell HK7.out 0).trans rfl; have q1 := (blk_cell HK7.out 1).trans rfl; have q2 := (blk_cell HK7.out 2).trans rfl; have q3 := (blk_cell HK7.out 3).trans rfl; have q4 := (blk_cell HK7.out 4).trans rfl; have q5 := (blk_cell HK7.out 5).trans rfl; have q6 := (blk_cell HK7.out 6).trans rfl; have q7 := (blk_cell HK7.out 7).trans rfl; clear hb z0 z1 z2 z3 z4 z5 z6 z7 HK6 HM6 HMb6 HB6))
                    go_roundg k1
                    case measure => omega
                    case rel => exact ⟨i + 1, m, by first | rfl | (simp; done) | (go_num; done), ⟨by have := HI.out; omega⟩, ⟨by have := HAS.out; rw [HS.out] at this; exact this⟩, HM7, HMb7, HB7⟩
    · intro k v w3 hk hv hrg hg hs he
      obtain ⟨v0, hv0, hvv⟩ : ∃ v0, aget t k = some v0 ∧ Value.int .i64 v0 = v := by
        rw [aget_enc] at hv
        cases hq : aget t k with
        | none => rw [hq] at hv; simp at hv
        | some v0 => rw [hq] at hv; exact ⟨v0, rfl, by simpa using hv⟩
      subst hvv
      have HCP3 := Aside0.mk (copied_step HCP.out HLN.out hk hv0)
      have HLN3 := Aside0.mk (HLN.out.erase k)
      have HLL3 := Aside0.mk (show (left.erase k).length + 1 = gk from by rw [List.length_erase_of_mem hk]; have := List.length_pos_of_mem hk; have := HLL.out; omega)
      have HRG3 := Aside0.mk hrg
      have HM3 := Aside0.mk (HM2.out.kept hg (fun e => by injection e with e; exact HNE.out e))
      have HB3 := Aside0.mk (below_grown_one HB2.out hg HGR.out)
      clear hk hv hrg hg hs hv0 HCP HLN HLL HRG HM2 HB2
      go_wp2_with (first
        | (at_mapUpdate; go_loud (refine im_store (Value.int .i64) rfl rfl rfl Try.underlying89 Try.underlying3 b2 m k v0 rfl rfl rfl HM3.out ?_); intro w4 hm4 hg4 hs4; have HM4 := Aside0.mk hm4; have HRG4 := Aside0.mk (HRG3.out.kept hg4 (fun e => by injection e with e; exact HBNE.out e) (fun e => by injection e with e; exact HNE.out e.symm)); have HB4 := Aside0.mk (below_grown_one HB3.out hg4 HGE.out); clear hm4 hg4 hs4))
      go_roundg (left.erase k).length
      case measure => have := HLL3.out; omega
      case rel => exact ⟨left.erase k, aset m k v0, ⟨rfl⟩, HLN3, HRG4, HM4, HCP3, HB4⟩
end Go.Proofs.Ytijflnpgiegajaa.Q
end
section
namespace Go.Proofs
open Go.Shelf
def Try.sortReady_ren : Go.Shelf.Ren := ⟨fun | 6 => 48 | 15 => 76 | 14 => 75 | 28 => 99 | 29 => 100 | 20 => 91 | 21 => 92 | 22 => 93 | 23 => 94 | 24 => 95 | 25 => 96 | 26 => 97 | 27 => 98 | 46 => 114 | 47 => 115 | 48 => 116 | 49 => 117 | 50 => 118 | 57 => 127 | n => n, fun | 22 => 38 | 24 => 71 | 25 => 85 | 3 => 3 | 39 => 118 | 0 => 0 | 53 => 139 | 55 => 141 | 4 => 4 | 46 => 133 | 45 => 132 | 50 => 36 | 5 => 5 | 9 => 9 | 66 => 143 | 70 => 147 | 76 => 153 | 77 => 154 | n => n, fun | n => n⟩
theorem Try.sortReady : Go.Proofs.SlLaysF0.n6 Try.prog Try.sortReady_ren := {
  mixed := by kernel_rfl
  f6 := ⟨Try.f48.name, by decide, Try.func48.trans (congrArg some (by kernel_rfl))⟩
  f14 := ⟨Try.f75.name, by decide, Try.func75.trans (congrArg some (by kernel_rfl))⟩
  f15 := Try.func76.trans (congrArg some (by kernel_rfl))
  f20 := ⟨Try.f91.name, by decide, Try.func91.trans (congrArg some (by kernel_rfl))⟩
  f21 := ⟨Try.f92.name, by decide, Try.func92.trans (congrArg some (by kernel_rfl))⟩
  f22 := ⟨Try.f93.name, by decide, Try.func93.trans (congrArg some (by kernel_rfl))⟩
  f23 := ⟨Try.f94.name, by decide, Try.func94.trans (congrArg some (by kernel_rfl))⟩
  f24 := ⟨Try.f95.name, by decide, Try.func95.trans (congrArg some (by kernel_rfl))⟩
  f25 := ⟨Try.f96.name, by decide, Try.func96.trans (congrArg some (by kernel_rfl))⟩
  f26 := ⟨Try.f97.name, by decide, Try.func97.trans (congrArg some (by kernel_rfl))⟩
  f27 := ⟨Try.f98.name, by decide, Try.func98.trans (congrArg some (by kernel_rfl))⟩
  f28 := Try.func99.trans (congrArg some (by kernel_rfl))
  f29 := Try.func100.trans (congrArg some (by kernel_rfl))
  f46 := ⟨Try.f114.name, by decide, Try.func114.trans (congrArg some (by kernel_rfl))⟩
  f47 := Try.func115.trans (congrArg some (by kernel_rfl))
  f48 := Try.func116.trans (congrArg some (by kernel_rfl))
  f49 := ⟨Try.f117.name, by decide, Try.func117.trans (congrArg some (by kernel_rfl))⟩
  f50 := ⟨Try.f118.name, by decide, Try.func118.trans (congrArg some (by kernel_rfl))⟩
  f57 := ⟨Try.f127.name, by decide, Try.func127.trans (congrArg some (by kernel_rfl))⟩
  t0 := Try.underlying0
  a0 := Try.isAgg0
  z0 := Try.sizeOf0
  v0 := Try.zeroValue0
  t3 := Try.underlying3
  a3 := Try.isAgg3
  z3 := Try.sizeOf3
  v3 := Try.zeroValue3
  t4 := Try.underlying4
  a4 := Try.isAgg4
  z4 := Try.sizeOf4
  v4 := Try.zeroValue4
  t5 := Try.underlying5
  a5 := Try.isAgg5
  z5 := Try.sizeOf5
  v5 := Try.zeroValue5
  t9 := Try.underlying9
  a9 := Try.isAgg9
  z9 := Try.sizeOf9
  v9 := Try.zeroValue9
  t22 := Try.underlying38
  a22 := Try.isAgg38
  z22 := Try.sizeOf38
  v22 := Try.zeroValue38
  t25 := Try.underlying85
  a25 := Try.isAgg85
  z25 := Try.sizeOf85
  v25 := Try.zeroValue85
  t39 := Try.underlying118
  a39 := Try.isAgg118
  z39 := Try.sizeOf118
  v39 := Try.zeroValue118
  t45 := Try.underlying132
  a45 := Try.isAgg132
  z45 := Try.sizeOf132
  v45 := Try.zeroValue132
  t46 := Try.underlying133
  a46 := Try.isAgg133
  z46 := Try.sizeOf133
  v46 := Try.zeroValue133
  t50 := Try.underlying36
  a50 := Try.isAgg36
  z50 := Try.sizeOf36
  v50 := Try.zeroValue36
  t53 := Try.underlying139
  a53 := Try.isAgg139
  z53 := Try.sizeOf139
  v53 := Try.zeroValue139
  t55 := Try.underlying141
  a55 := Try.isAgg141
  z55 := Try.sizeOf141
  v55 := Try.zeroValue141
  t66 := Try.underlying143
  a66 := Try.isAgg143
  z66 := Try.sizeOf143
  v66 := Try.zeroValue143
  t70 := Try.underlying147
  a70 := Try.isAgg147
  z70 := Try.sizeOf147
  v70 := Try.zeroValue147
  t76 := Try.underlying153
  a76 := Try.isAgg153
  z76 := Try.sizeOf153
  v76 := Try.zeroValue153
  t77 := Try.underlying154
  a77 := Try.isAgg154
  z77 := Try.sizeOf154
  v77 := Try.zeroValue154 }
end Go.Proofs
end
section
namespace Go.Proofs.Ytijflnpgiegajaa.Q
open Go.RowKit Go.Sort Go.Proofs.YtijflnpgiegajaaW.PrintWords Go.Proofs.YtijflnpgiegajaaW.PrintLast Go.Proofs.YtijflnpgiegajaaW.PrintMore Go.Proofs.Ytijflnpgiegajaa.IM Go.Proofs.Ytijflnpgiegajaa.Ev
set_option linter.unusedVariables false
set_option linter.unusedSimpArgs false
def insR (x : S71) : List S71 → List S71
  | [] => [x]
  | y :: r => if x.f0 ≤ y.f0 then x :: y :: r else y :: insR x r
def sortR : List S71 → List S71
  | [] => []
  | x :: r => insR x (sortR r)
theorem insR_perm (x : S71) (l : List S71) : (insR x l).Perm (x :: l) := by
  induction l with
  | nil => exact .refl _
  | cons y r ih =>
    unfold insR
    split
    · exact .refl _
    · exact (List.Perm.cons y ih).trans (.swap x y r)
theorem sortR_perm (l : List S71) : (sortR l).Perm l := by
  induction l with
  | nil => exact .refl _
  | cons x r ih => exact (insR_perm x _).trans (.cons x ih)
theorem insR_sorted (x : S71) (l : List S71) (h : l.Pairwise (fun a b => a.f0 ≤ b.f0)) : (insR x l).Pairwise (fun a b => a.f0 ≤ b.f0) := by
  induction l with
  | nil => simp [insR]
  | cons y r ih =>
    have h' := List.pairwise_cons.1 h
    unfold insR
    split
    · rename_i hc
      refine List.pairwise_cons.2 ⟨fun z hz => ?_, h⟩
      rcases List.mem_cons.1 hz with rfl | hz
      · exact hc
      · exact Int.le_trans hc (h'.1 z hz)
    · rename_i hc
      refine List.pairwise_cons.2 ⟨fun z hz => ?_, ih h'.2⟩
      rcases List.mem_cons.1 ((insR_perm x r).mem_iff.1 hz) with rfl | hz
      · omega
      · exact h'.1 z hz
theorem sortR_sorted (l : List S71) : (sortR l).Pairwise (fun a b => a.f0 ≤ b.f0) := by
  induction l with
  | nil => exact .nil
  | cons x r ih => exact insR_sorted x _ ih
theorem sorted_one {l m : List S71} (hp : l.Perm m) (hl : l.Pairwise (fun a b => a.f0 ≤ b.f0)) (hm : m.Pairwise (fun a b => a.f0 ≤ b.f0)) (hn : (l.map (·.f0)).Nodup) : l = m := by
  have inj : ∀ a ∈ l, ∀ b ∈ l, a.f0 = b.f0 → a = b := by
    intro a ha b hb he
    clear hp hl hm
    induction l with
    | nil => cases ha
    | cons x r ih =>
      rw [List.map_cons, List.nodup_cons] at hn
      rcases List.mem_cons.1 ha with rfl | ha2 <;> rcases List.mem_cons.1 hb with rfl | hb2
      · rfl
      · exact absurd (he ▸ List.mem_map_of_mem (f := (·.f0)) hb2) hn.1
      · exact absurd (by rw [← he]; exact List.mem_map_of_mem (f := (·.f0)) ha2) hn.1
      · exact ih hn.2 ha2 hb2
  refine List.Perm.eq_of_pairwise (le := fun a b => a.f0 ≤ b.f0) ?_ hl hm hp
  intro a b ha hb h1 h2
  exact inj a ha b (hp.mem_iff.2 hb) (by omega)
theorem sortR_of {l m : List S71} (hp : l.Perm m) (hl : l.Pairwise (fun a b => a.f0 ≤ b.f0)) (hn : (m.map (·.f0)).Nodup) : l = sortR m :=
  sorted_one (hp.trans (sortR_perm m).symm) hl (sortR_sorted m) ((hp.map _).nodup_iff.2 hn)
instance : Inhabited S71 := ⟨z71⟩
def encR (x : S71) : List Value := [.int .i64 x.f0, .int .i64 x.f1]
theorem flat_get (ds : Array S71) (t : Nat) (h : t < ds.size * 2) : (flatK encR 2 ds)[t]! = (encR ds[t / 2]!)[t % 2]! := get_flatK encR 2 ds t h
theorem reps_flat {w : World} {base : Nat} {ok : Nat → Prop} {xs : List S71} {cs : List Value} (h : Reps (k71.M w base ok) 2 xs cs) : cs = (flatK encR 2 xs.toArray).toList := by
  obtain ⟨hl, hr⟩ := h
  refine List.ext_getElem (by simp [hl]) fun t h1 h2 => ?_
  have h3 : t < xs.length * 2 := by omega
  have h4 : t / 2 < xs.length := by omega
  have hM := k71_openM (hr (t / 2) _ (List.getElem?_eq_getElem h4))
  have e1 : (flatK encR 2 xs.toArray)[t]! = (encR xs[t / 2])[t % 2]! := by
    rw [flat_get _ _ (by simpa using h3)]
    congr 2
    simp [h4]
  rw [show (flatK encR 2 xs.toArray).toList[t] = (flatK encR 2 xs.toArray)[t]! from (getElem!_pos (flatK encR 2 xs.toArray) t (by simpa using h3)).symm, e1]
  have e2 : ((cs.drop (t / 2 * 2)).take 2)[t % 2]? = some cs[t] := by
    rw [List.getElem?_take_of_lt (by omega), List.getElem?_drop, show t / 2 * 2 + t % 2 = t by omega, List.getElem?_eq_getElem h1]
  rw [hM] at e2
  unfold encR
  rw [List.getElem!_eq_getElem?_getD, e2]
  rfl
theorem flat_reps (w : World) (base : Nat) (ok : Nat → Prop) (ys : Array S71) : Reps (k71.M w base ok) 2 ys.toList (flatK encR 2 ys).toList := by
  refine ⟨by simp, fun j p hj => ?_⟩
  have hjl : j < ys.size := by have := (List.getElem?_eq_some_iff.1 hj).1; simpa using this
  have hp : ys[j]! = p := by
    rw [getElem!_pos ys j hjl]
    rw [List.getElem?_eq_getElem (by simpa using hjl)] at hj
    simpa using hj
  have : ((flatK encR 2 ys).toList.drop (j * 2)).take 2 = [.int .i64 p.f0, .int .i64 p.f1] := by
    refine List.ext_getElem? fun i => ?_
    rcases Nat.lt_or_ge i 2 with hi | hi
    · rw [List.getElem?_take_of_lt hi, List.getElem?_drop]
      have h1 : j * 2 + i < ys.size * 2 := by omega
      rw [List.getElem?_eq_getElem (by simpa using h1), Array.getElem_toList, ← getElem!_pos (flatK encR 2 ys) _ (by simpa using h1), flat_get _ _ h1, show (j * 2 + i) / 2 = j by omega, show (j * 2 + i) % 2 = i by omega, hp]
      match i, hi with
      | 0, _ => rfl
      | 1, _ => rfl
    · rw [List.getElem?_take_eq_none (by omega), List.getElem?_eq_none (by simpa using hi)]
  rw [this]
  exact k71_mkM _ _ _ _
theorem take_putF (cur : Array Value) (F : Array Value) (h : F.size ≤ cur.size) : (putCells id 0 F cur).toList.take F.size = F.toList := by
  apply List.ext_getElem?
  intro j
  by_cases hj : j < F.size
  · rw [List.getElem?_take_of_lt hj, Array.getElem?_toList]
    simp [putCells, hj, show j < cur.size by omega]
  · rw [List.getElem?_take_eq_none (by omega), List.getElem?_eq_none (by simp; omega)]
def cfR (x y : S71) : Int := Lib.compareInt x.f0 y.f0
theorem ltR (x y : S71) : ltOf cfR x y = decide (x.f0 < y.f0) := by
  unfold ltOf cfR Lib.compareInt
  by_cases h1 : x.f0 < y.f0
  · simp [h1]
  · by_cases h2 : y.f0 < x.f0 <;> simp [h1, h2]
theorem swoR : SWO (ltOf cfR) where
  irrefl x := by rw [ltR]; simp
  trans x y z h1 h2 := by rw [ltR] at *; simp at *; omega
  ntrans x y z h1 h2 := by rw [ltR] at *; simp at *; omega
theorem sort_R (g : Nat) (eg : ∀ args w, (callFunc g args).run Try.prog w = .ok (.enter g args) w) (hcmp : ∀ blk off size w, CmpLays Try.prog g #[] encR 2 cfR blk off size w)
    (v : Value) (xs : List S71) (W : World) (base : Nat) (ok : Nat → Prop) (hR : Kd.R k71 71 W base ok v xs) (hne : xs ≠ []) (hs : xs.length < 4611686018427387904) (hnd : (xs.map (·.f0)).Nodup) :
    Calls Try.prog 48 #[v, .func (.func g) #[] #[]] W fun e w' => e = .returned (.tuple #[]) ∧ Kd.R k71 71 w' base ok v (sortR xs) ∧ W.grownBy w' v.ownBlock := by
  obtain ⟨h0, inner, ho, hr⟩ := hR
  have hfl := reps_flat hr
  have hpos : 0 < xs.length := List.length_pos_iff.2 hne
  rcases ho.2 with ⟨_, hn⟩ | ⟨b, cap, cur, rfl, hb, hh, h1, h2, h3, h4⟩
  · omega
  have hbl : b < W.heap.size := (Array.getElem?_eq_some_iff.1 hh).1
  have h3' : cur.size = cap * 2 := h3
  have h4' : cur.toList.take (xs.length * 2) = inner := h4
  have hcell : ∀ t, t < xs.length * 2 → cur[t]? = some (flatK encR 2 xs.toArray)[t]! := by
    intro t ht
    have : (cur.toList.take (xs.length * 2))[t]? = inner[t]? := by rw [h4']
    rw [List.getElem?_take_of_lt ht, hfl, Array.getElem?_toList, Array.getElem?_toList] at this
    rw [this, Array.getElem?_eq_getElem (by simpa using ht), getElem!_pos (flatK encR 2 xs.toArray) t (by simpa using ht)]
  have hH : HoldsK encR 2 W b 0 xs.toArray := by
    intro t ht
    have ht' : t < xs.length * 2 := by simpa using ht
    refine ⟨?_, by simp [World.frozen?, hh]⟩
    simp only [World.cell?, hh, Nat.zero_add]
    simp only [Option.isSome_none, Bool.false_eq_true, if_false]
    exact hcell t ht'
  have hsz : xs.toArray.size < 4611686018427387904 := by simpa using hs
  have hcon := AnyQ.slices_SortFunc Try.sortReady 2 Try.isAgg71 Try.sizeOf71 encR (fun _ => rfl) (fun x v hv => by simp [encR] at hv; rcases hv with rfl | rfl <;> rfl) cfR swoR g #[] b 0 cap xs.toArray W eg (hcmp _ _ _ _) hH hbl hsz
  refine (show Calls Try.prog 48 _ _ _ from hcon).mono ?_
  rintro e w' ⟨rfl, d', n, os, ⟨hds, hd0, hdp⟩, hsd, rfl⟩
  have hsize : d'.size = xs.length := by simpa using hds
  have hp : d'.toList.Perm xs := by
    rw [show xs.toArray.size = d'.size from hds.symm] at hdp
    have e1 : d'.extract 0 d'.size = d' := by simp
    have e2 : xs.toArray.extract 0 d'.size = xs.toArray := by rw [hsize]; simp
    rw [e1, e2] at hdp
    exact hdp
  have hpw : d'.toList.Pairwise (fun a b => a.f0 ≤ b.f0) := by
    rw [List.pairwise_iff_getElem]
    intro i j hi hj hij
    have := hsd i j (Nat.zero_le _) hij (by rw [← hds]; simpa using hj)
    rw [ltR] at this
    rw [getElem!_pos d' i (by simpa using hi), getElem!_pos d' j (by simpa using hj)] at this
    simpa using this
  have he : d'.toList = sortR xs := sortR_of hp hpw hnd
  have hheap : (sortWorldK encR 2 W b 0 n d' os).heap[b]? = some (.cells (putCells id 0 (flatK encR 2 d') cur) 71 (0, 0)) := by
    unfold sortWorldK putRowK
    rw [heap_grow_old _ _ (by simpa using hbl)]
    simp [putRow, mapBlock, Sort.ahead, Array.getElem?_modify, hh, onCells]
  refine ⟨rfl, ⟨h0, (flatK encR 2 d').toList, ⟨?_, .inr ⟨b, cap, _, ?_, hb, hheap, ?_, h2, ?_, ?_⟩⟩, ?_⟩, ?_⟩
  · rw [← he]; simp; rfl
  · rw [← he]; simp [hsize]
  · rw [← he]; simp [hsize]; exact h1
  · simp [putCells]; exact h3
  · rw [← he]
    have := take_putF cur (flatK encR 2 d') (by simp [hsize, h3']; omega)
    rw [size_flatK] at this
    exact this
  · rw [← he]
    exact flat_reps _ _ _ d'
  · refine ⟨rfl, rfl, rfl, by simp [sortWorldK, putRowK], fun k hk hne => ?_⟩
    unfold sortWorldK putRowK
    rw [heap_grow_old _ _ (by simpa using hk)]
    have : b ≠ k := fun e => hne (by rw [← e]; rfl)
    simp [putRow, mapBlock, Sort.ahead, Array.getElem?_modify, this]
set_option maxHeartbeats 8000000 in
set_option maxRecDepth 100000 in
theorem closure_calls113 (x y : S71) (W : World) : Calls Try.prog 113 #[.agg #[.int .i64 x.f0, .int .i64 x.f1], .agg #[.int .i64 y.f0, .int .i64 y.f1]] W fun e w' => e = .returned (.int .i64 (cfR x y)) ∧ ∃ q os', w' = grow (W.drewN q) os' := by
  have hcon : ∀ W', Calls Try.prog 39 #[.int .i64 x.f0, .int .i64 y.f0] W' fun e w' => e = .returned (.int .i64 (cfR x y)) ∧ ∃ n, w' = W'.drewN n := fun W' => (cmp_Compare_int.calls x.f0 y.f0 (cfR x y) W' (by
    show ((cmp_isNaN_int.f x.f0).bind fun t104 => ((cmp_isNaN_int.f y.f0).bind fun t105 => _)) = _
    simp only [cmp_isNaN_int.f, cfR, Lib.compareInt]
    simp
    split
    · simp
    · split <;> simp)).mono fun _ _ ⟨h1, h2⟩ => ⟨h1, h2.out⟩
  generalize cfR x y = r at hcon ⊢
  go_enter Try.func113, Try.ntmps113
  go_wp2_with (go_at_call 39; refine (hcon _).mono ?_; rintro e w' ⟨rfl, n, rfl⟩)
  go_ret
  exact ⟨rfl, _, _, by rw [alloc_eq_grow, alloc_eq_grow, grow_grow]; rfl⟩
set_option maxHeartbeats 8000000 in
set_option maxRecDepth 100000 in
theorem closure_calls49 (x y : S71) (W : World) : Calls Try.prog 49 #[.agg #[.int .i64 x.f0, .int .i64 x.f1], .agg #[.int .i64 y.f0, .int .i64 y.f1]] W fun e w' => e = .returned (.int .i64 (cfR x y)) ∧ ∃ q os', w' = grow (W.drewN q) os' := by
  have hcon : ∀ W', Calls Try.prog 39 #[.int .i64 x.f0, .int .i64 y.f0] W' fun e w' => e = .returned (.int .i64 (cfR x y)) ∧ ∃ n, w' = W'.drewN n := fun W' => (cmp_Compare_int.calls x.f0 y.f0 (cfR x y) W' (by
    show ((cmp_isNaN_int.f x.f0).bind fun t104 => ((cmp_isNaN_int.f y.f0).bind fun t105 => _)) = _
    simp only [cmp_isNaN_int.f, cfR, Lib.compareInt]
    simp
    split
    · simp
    · split <;> simp)).mono fun _ _ ⟨h1, h2⟩ => ⟨h1, h2.out⟩
  generalize cfR x y = r at hcon ⊢
  go_enter Try.func49, Try.ntmps49
  go_wp2_with (go_at_call 39; refine (hcon _).mono ?_; rintro e w' ⟨rfl, n, rfl⟩)
  go_ret
  exact ⟨rfl, _, _, by rw [alloc_eq_grow, alloc_eq_grow, grow_grow]; rfl⟩
theorem sort_113 (v : Value) (xs : List S71) (W : World) (base : Nat) (ok : Nat → Prop) (hR : Kd.R k71 71 W base ok v xs) (hne : xs ≠ []) (hs : xs.length < 4611686018427387904) (hnd : (xs.map (·.f0)).Nodup) :
    Calls Try.prog 48 #[v, .func (.func 113) #[] #[]] W fun e w' => e = .returned (.tuple #[]) ∧ Kd.R k71 71 w' base ok v (sortR xs) ∧ W.grownBy w' v.ownBlock :=
  sort_R 113 (enters_of Try.func113 (by kernel_rfl) rfl) (fun _ _ _ _ _ _ _ _ x y => closure_calls113 x y _) v xs W base ok hR hne hs hnd
theorem sort_49 (v : Value) (xs : List S71) (W : World) (base : Nat) (ok : Nat → Prop) (hR : Kd.R k71 71 W base ok v xs) (hne : xs ≠ []) (hs : xs.length < 4611686018427387904) (hnd : (xs.map (·.f0)).Nodup) :
    Calls Try.prog 48 #[v, .func (.func 49) #[] #[]] W fun e w' => e = .returned (.tuple #[]) ∧ Kd.R k71 71 w' base ok v (sortR xs) ∧ W.grownBy w' v.ownBlock :=
  sort_R 49 (enters_of Try.func49 (by kernel_rfl) rfl) (fun _ _ _ _ _ _ _ _ x y => closure_calls49 x y _) v xs W base ok hR hne hs hnd
end Go.Proofs.Ytijflnpgiegajaa.Q
end
section
namespace Go.Proofs.Ytijflnpgiegajaa.Q
open Go.RowKit Go.Proofs.YtijflnpgiegajaaW.PrintWords Go.Proofs.YtijflnpgiegajaaW.PrintLast Go.Proofs.YtijflnpgiegajaaW.PrintMore Go.Proofs.Ytijflnpgiegajaa.IM Go.Proofs.Ytijflnpgiegajaa.Ev
set_option linter.unusedVariables false
set_option linter.unusedSimpArgs false
theorem irange_ne_blk {w : World} {b r g T : Nat} {m : List (Int × Value)} {left : List Int} {cur : Array Value} (hm : IRange w b r m left) (hblk : w.heap[g]? = some (.cells cur T (0, 0))) : r ≠ g := fun he => by
  subst he
  obtain ⟨_, es, clk, since, seen, c0, hb, hs, hm, hr, _⟩ := hm
  rw [hr] at hblk
  injection hblk with hblk
  exact Obj.noConfusion hblk
theorem irange_ne {α : Type} {d : Kd α} {e : Nat} {w : World} {base : Nat} {ok : Nat → Prop} {v : Value} {xs : List α} {b r : Nat} {m : List (Int × Value)} {left : List Int} (hm : IRange w b r m left) (h : d.R e w base ok v xs) : some r ≠ v.ownBlock := fun he => by
  obtain ⟨inner, ho⟩ := Kd.R_own h
  obtain ⟨cells, hc⟩ := own_typed ho r he.symm
  exact irange_ne_blk hm hc rfl
theorem R_rangestep {α : Type} {d : Kd α} {e : Nat} {W w1 : World} {base : Nat} {ok : Nat → Prop} {v : Value} {xs : List α} {b r : Nat} {m : List (Int × Value)} {left : List Int} (h : d.R e W base ok v xs) (hm : IRange W b r m left) (hg : W.grownBy w1 (some r)) : d.R e w1 base ok v xs :=
  Kd.R_mono (Kd.R_grown (Kd.R_bound h) hg (fun k hk he => by
    obtain ⟨_, _, _, q, _, cells, hc⟩ := hk
    injection he with he
    exact irange_ne_blk hm hc he.symm)) (fun _ hk => hk.1)
def pairR (p : Int × Int) : S71 := ⟨p.1, p.2⟩
def rowT (T : List (Int × Int)) : List S71 := sortR (T.map pairR)
def Got (xs : List S71) (left : List Int) (t : List (Int × Int)) : Prop := (xs.map (·.f0) ++ left).Perm (t.map (·.1)) ∧ ∀ x ∈ xs, aget t x.f0 = some x.f1
theorem got_step {xs : List S71} {left : List Int} {t : List (Int × Int)} {k v : Int} (h : Got xs left t) (hk : k ∈ left) (hv : aget t k = some v) : Got (xs ++ [⟨k, v⟩]) (left.erase k) t := by
  refine ⟨?_, fun x hx => ?_⟩
  · rw [List.map_append, List.append_assoc]
    exact (List.Perm.append_left _ (List.perm_cons_erase hk).symm).trans h.1
  · rcases List.mem_append.1 hx with hx | hx
    · exact h.2 x hx
    · rw [List.mem_singleton.1 hx]
      exact hv
theorem map_keys {α : Type} (l : List α) (key : α → Int) (f : α → S71) (g : Int → S71) (h : ∀ x ∈ l, g (key x) = f x) : (l.map key).map g = l.map f := by
  rw [List.map_map]
  exact List.map_congr_left h
theorem got_perm {xs : List S71} {t : List (Int × Int)} (hn : (t.map (·.1)).Nodup) (h : Got xs [] t) : xs.Perm (t.map pairR) := by
  have hp := h.1
  rw [List.append_nil] at hp
  have := hp.map (fun k => (⟨k, (aget t k).getD 0⟩ : S71))
  rw [map_keys xs (·.f0) id _ (fun x hx => by rw [h.2 x hx]; rfl), List.map_id, map_keys t (·.1) pairR _ (fun p hp => by rw [aget_of_mem hn hp]; rfl)] at this
  exact this
theorem pairR_keys (t : List (Int × Int)) : (t.map pairR).map (·.f0) = t.map (·.1) := by
  rw [List.map_map]
  rfl
theorem agree_perm {t T : List (Int × Int)} (hn : (t.map (·.1)).Nodup) (hN : (T.map (·.1)).Nodup) (h : Agree t T) : t.Perm T := by
  have hk : (t.map (·.1)).Perm (T.map (·.1)) := by
    rw [List.perm_iff_count]
    intro a
    have : a ∈ t.map (·.1) ↔ a ∈ T.map (·.1) := by
      have h1 := aget_none (m := t) (k := a)
      have h2 := aget_none (m := T) (k := a)
      rw [h a] at h1
      exact ⟨fun q => Classical.not_not.1 fun g => h1.1 (h2.2 g) q, fun q => Classical.not_not.1 fun g => h2.1 (h1.2 g) q⟩
    rw [hn.count, hN.count]
    simp only [this]
  have := hk.map (fun k => (k, (aget t k).getD 0))
  rw [List.map_map, List.map_map] at this
  have e1 : t.map ((fun k => (k, (aget t k).getD 0)) ∘ (·.1)) = t := by
    conv => rhs; rw [← List.map_id t]
    exact List.map_congr_left fun p hp => by simp [aget_of_mem hn hp]
  have e2 : T.map ((fun k => (k, (aget t k).getD 0)) ∘ (·.1)) = T := by
    conv => rhs; rw [← List.map_id T]
    exact List.map_congr_left fun p hp => by simp [h p.1, aget_of_mem hN hp]
  rw [e1, e2] at this
  exact this
theorem rowT_perm {t T : List (Int × Int)} (hp : t.Perm T) (hn : (t.map (·.1)).Nodup) : rowT t = rowT T :=
  sortR_of (((sortR_perm _).trans (hp.map pairR))) (sortR_sorted _) (by rw [pairR_keys]; exact (hp.map _).nodup_iff.1 hn)
set_option maxHeartbeats 8000000 in
set_option maxRecDepth 100000 in
theorem row_calls (b : Nat) (T : List (Int × Int)) (w : World) (HT : TMap w b T) (hN : (T.map (·.1)).Nodup) (hne : T ≠ []) (hlen : T.length ≤ 2000000000000) :
    Calls Try.prog 88 #[.map (some b)] w fun e w' => ∃ v : Value, e = .returned v ∧ Kd.R k71 71 w' w.heap.size (fun _ => True) v (rowT T) ∧ Below w.heap.size w w' := by
  obtain ⟨t, hag, H⟩ := HT
  have hnd := H.nodup
  rw [List.map_map] at hnd
  have hnd2 : (t.map (·.1)).Nodup := hnd
  have hpT := agree_perm hnd2 hN hag
  have htl : t.length ≤ 2000000000000 := by rw [hpT.length_eq]; exact hlen
  have htne : t ≠ [] := fun e => hne (by rw [e] at hpT; exact hpT.symm.eq_nil)
  have hrow : rowT T = rowT t := (rowT_perm hpT hnd2).symm
  rw [hrow]
  clear hrow hag hnd hN hne hlen hpT
  have HM := Aside0.mk H
  have HND := Aside0.mk hnd2
  have HTL := Aside0.mk htl
  have HTN := Aside0.mk htne
  have HB := Aside0.mk (Below.refl w.heap.size w)
  clear H hnd2 htl htne
  have HO := Aside0.mk (Kd.R_nil k71 71 w w.heap.size (fun _ => True))
  go_enter Try.func88, Try.ntmps88
  go_wp2_with (first
    | ((with_reducible refine gate_dst (N := 6) rfl ?_); go_loud (refine im_range 6 rfl rfl rfl Try.underlying89 b (t.map fun p => (p.1, Value.int .i64 p.2)) rfl HM.out ?_); intro r w2 hr hrg hbw hs; have HGR := Aside0.mk (show w.heap.size ≤ r from Nat.le_of_eq hr.symm); have HRG := Aside0.mk hrg; have HO2 := Aside0.mk (Kd.R_below HO.out hbw); have HB2 := Aside0.mk (below_step HB.out hbw); clear hrg hbw hs hr HM HO HB))
  go_frame
  go_loopg [2, 3, 4, 7] (t.map (·.1)).length (fun kq v2 _ _ _ w' => ∃ (left : List Int) (xs : List S71), Aside0 (left.length = kq) ∧ Aside0 (IRange w' b r (t.map fun p => (p.1, Value.int .i64 p.2)) left) ∧ Aside0 (Got xs left t) ∧ Aside0 (Kd.R k71 71 w' w.heap.size (fun _ => True) v2 xs) ∧ Aside0 (Below w.heap.size w w'))
  case atStart => exact ⟨t.map (·.1), [], ⟨rfl⟩, ⟨by have := HRG.out; rw [List.map_map] at this; exact this⟩, ⟨⟨List.Perm.refl _, fun x hx => by cases hx⟩⟩, HO2, HB2⟩
  case round =>
    clear HRG HO2 HB2
    obtain ⟨left, xs, HLL, HRG, HGT, HO2, HB2⟩ := hrel
    go_wp2_with (first
      | ((with_reducible refine gate_dst (N := 7) rfl ?_); go_loud (refine im_next 7 rfl rfl rfl b r (t.map fun p => (p.1, Value.int .i64 p.2)) left rfl HRG.out ?_ ?_)))
    · intro h0
      have hgt := HGT.out
      rw [h0] at hgt
      have hp := got_perm HND.out hgt
      have hxl : xs.length = t.length := by rw [hp.length_eq, List.length_map]
      have hxn : (xs.map (·.f0)).Nodup := by
        have := (hp.map (·.f0)).nodup_iff.2 (by rw [pairR_keys]; exact HND.out)
        exact this
      have HXN := Aside0.mk hxn
      have HXE := Aside0.mk (show xs ≠ [] from fun e => HTN.out (List.length_eq_zero_iff.1 (by rw [← hxl, e]; rfl)))
      have HXL := Aside0.mk (show xs.length < 4611686018427387904 by have := HTL.out; omega)
      have HRW := Aside0.mk (show sortR xs = rowT t from sortR_of ((sortR_perm xs).trans hp) (sortR_sorted xs) (by rw [pairR_keys]; exact HND.out))
      clear h0 hgt hp hxl hxn HGT HRG HLL
      obtain ⟨Ao, co, eo⟩ := Kd.R_slice HO2.out
      subst eo
      go_wp2_with (first
        | (go_at_call 48; go_loud (refine (sort_113 (.slice Ao xs.length co) xs _ w.heap.size (fun _ => True) HO2.out HXE.out HXL.out HXN.out).mono ?_); go_loud (rintro e w' ⟨rfl, ho, hg⟩); go_loud (have HO3 := Aside0.mk ho; have HB3 := Aside0.mk (HB2.out.grown hg HB2.out.size (fun k hk => Kd.R_base HO2.out k hk)); clear ho hg)))
      go_ret
      exact ⟨_, rfl, by rw [← HRW.out]; exact HO3.out, HB3.out⟩
    · intro k v w3 hk hv hrg hg hs he
      obtain ⟨v0, hv0, hvv⟩ : ∃ v0, aget t k = some v0 ∧ Value.int .i64 v0 = v := by
        rw [aget_enc] at hv
        cases hq : aget t k with
        | none => rw [hq] at hv; simp at hv
        | some v0 => rw [hq] at hv; exact ⟨v0, rfl, by simpa using hv⟩
      subst hvv
      have hgt := HGT.out
      have hlx : xs.length + 1 ≤ t.length := by
        have h1 := hgt.1.length_eq
        rw [List.length_append, List.length_map, List.length_map] at h1
        have := List.length_pos_of_mem hk
        omega
      have HLX := Aside0.mk (show (xs.length + 1) * 16 ≤ 140737488355328 by have := HTL.out; omega)
      have HGT3 := Aside0.mk (got_step hgt hk hv0)
      have HLL3 := Aside0.mk (show (left.erase k).length + 1 = gk from by rw [List.length_erase_of_mem hk]; have := List.length_pos_of_mem hk; have := HLL.out; omega)
      have HRG3 := Aside0.mk hrg
      have HO3 := Aside0.mk (R_rangestep HO2.out HRG.out hg)
      have HB3 := Aside0.mk (below_grown_one HB2.out hg HGR.out)
      clear hk hv hrg hg hs hv0 hlx hgt HGT HLL HRG HO2 HB2
      obtain ⟨Ao, co, eo⟩ := Kd.R_slice HO3.out
      subst eo
      go_wp2_with (first
        | ((with_reducible refine gate_builtin (b := .append) (xs := #[.tmp 12, .tmp 16]) rfl ?_); at_builtin; go_loud (refine Kd.R_append k71 (w0 := w) (W := w3) w.heap.size rfl (.tmp 12) (.tmp 16) 38 71 (.agg #[.int .i64 0, .int .i64 0]) 16 rfl Try.underlying38 info71 rfl (by decide) (by decide) (.slice Ao xs.length co) xs ⟨k, v0⟩ [.int .i64 k, .int .i64 v0] (fun _ => True) (fun _ => False) rfl rfl (k71_mkM _ _ _ ⟨k, v0⟩) (fun _ hk => hk.elim) (fun _ _ => trivial) HO3.out HB3.out HB3.out.size HLX.out ?_); intro v4 w4 ho4 hb4 hg4 hat4; have HO4 := Aside0.mk ho4; have HB4 := Aside0.mk hb4; have HRG4 := Aside0.mk (HRG3.out.kept hg4 (imap_ne HRG3.out.imap HO3.out) (irange_ne HRG3.out HO3.out)); clear ho4 hb4 hg4 hat4))
      go_roundg (left.erase k).length
      case measure => have := HLL3.out; omega
      case rel => exact ⟨left.erase k, xs ++ [⟨k, v0⟩], ⟨rfl⟩, HRG4, HGT3, HO4, HB4⟩
end Go.Proofs.Ytijflnpgiegajaa.Q
end
section
namespace Go.Proofs.Ytijflnpgiegajaa.Q
open Go.RowKit Go.Proofs.YtijflnpgiegajaaW.PrintWords Go.Proofs.YtijflnpgiegajaaW.PrintLast Go.Proofs.YtijflnpgiegajaaW.PrintMore Go.Proofs.Ytijflnpgiegajaa.IM Go.Proofs.Ytijflnpgiegajaa.Ev
set_option linter.unusedVariables false
set_option linter.unusedSimpArgs false
def Ahead (a b : S71) : Prop := a.f1 < b.f1 ∨ (a.f1 = b.f1 ∧ a.f0 < b.f0)
instance (a b : S71) : Decidable (Ahead a b) := by unfold Ahead; infer_instance
def cmpI (x y : Int) : Int := if x < y then -1 else if y < x then 1 else 0
theorem cmp_Compare_eq (x y : Int) : cmp_Compare_int.f x y = some (cmpI x y) := by
  show ((cmp_isNaN_int.f x).bind fun t104 => ((cmp_isNaN_int.f y).bind fun t105 => _)) = _
  simp only [cmp_isNaN_int.f, cmpI]
  simp
  split
  · simp
  · split <;> simp
theorem cmp_Or2_eq (x y : Int) : cmp_Or_int.f 3 [x, y] = some (if x = 0 then y else x) := by
  unfold cmp_Or_int.f
  simp only [cmp_Or_int.l0, List.length_cons, List.length_nil, rd]
  simp
  by_cases hx : x = 0
  · simp [hx, wrap_in]
    intro h; exact h.symm
  · simp [hx]
theorem ahead_or (a b : S71) : decide ((if cmpI a.f1 b.f1 = 0 then cmpI a.f0 b.f0 else cmpI a.f1 b.f1) < 0) = decide (Ahead a b) := by
  unfold cmpI Ahead
  congr 1
  apply propext
  rcases Int.lt_trichotomy a.f1 b.f1 with h | h | h
  · simp [h]
  · rcases Int.lt_trichotomy a.f0 b.f0 with g | g | g
    · simp [h, g]
    · simp [h, g]
    · simp [h, g, show ¬ a.f0 < b.f0 by omega]
  · simp [h, show ¬ a.f1 < b.f1 by omega, show ¬ a.f1 = b.f1 by omega]
theorem two_blocks (w : World) (o1 o2 : Obj) : ((w.alloc o1).alloc o2).heap[w.heap.size]? = some o1 ∧ ((w.alloc o1).alloc o2).heap[w.heap.size + 1]? = some o2 := by
  refine ⟨blk_alloc (blk_new w o1) o2, ?_⟩
  have := blk_new (w.alloc o1) o2
  rwa [show (w.alloc o1).heap.size = w.heap.size + 1 by show (w.heap.push _).size = _; simp] at this
theorem cells4 {W : World} {gx gy : Nat} {x y : S71} (kx : W.heap[gx]? = some (.cells #[.int .i64 x.f0, .int .i64 x.f1] 71 (0, 0))) (ky : W.heap[gy]? = some (.cells #[.int .i64 y.f0, .int .i64 y.f1] 71 (0, 0))) :
    W.cell? ⟨gx, 0, none⟩ = some (.int .i64 x.f0) ∧ W.cell? ⟨gx, 1, none⟩ = some (.int .i64 x.f1) ∧ W.cell? ⟨gy, 0, none⟩ = some (.int .i64 y.f0) ∧ W.cell? ⟨gy, 1, none⟩ = some (.int .i64 y.f1) :=
  ⟨(blk_cell kx 0).trans rfl, (blk_cell kx 1).trans rfl, (blk_cell ky 0).trans rfl, (blk_cell ky 1).trans rfl⟩
theorem lit2 {W : World} {g : Nat} {a b : Int} (h : W.heap[g]? = some (.cells #[.int .i64 a, .int .i64 b] 3 (0, 0))) : Kd.C (Kd.int .i64) W (some ⟨g, 0, none⟩) [a, b].length [a, b] := by
  refine ⟨rfl, by simp, fun _ => ⟨⟨g, 0, none⟩, rfl, fun j p hj => ?_⟩⟩
  have hj2 : j < 2 := (List.getElem?_eq_some_iff.1 hj).1
  match j, hj2, hj with
  | 0, _, hj =>
    injection hj with hj
    subst hj
    exact ⟨[.int .i64 a], rfl, rfl, fun i u hu => by
      have : i < 1 := (List.getElem?_eq_some_iff.1 hu).1
      obtain rfl : i = 0 := by omega
      injection hu with hu
      subst hu
      exact (blk_cell h 0).trans rfl⟩
  | 1, _, hj =>
    injection hj with hj
    subst hj
    exact ⟨[.int .i64 b], rfl, rfl, fun i u hu => by
      have : i < 1 := (List.getElem?_eq_some_iff.1 hu).1
      obtain rfl : i = 0 := by omega
      injection hu with hu
      subst hu
      exact (blk_cell h 1).trans rfl⟩
theorem gen_world {K : Act → World → Prop} {Q : Exit → Act → World → Prop} {a : Act} {W : World} (h : ∀ W', W' = W → Exit.then K Q .normal a W') : Exit.then K Q .normal a W := h _ rfl
set_option maxHeartbeats 8000000 in
set_option maxRecDepth 100000 in
theorem ahead_calls (hb : Nat) (A : Option Addr) (c : Nat) (xs : List S71) (i k : Nat) (w : World) (hh : w.heap[hb]? = some (.cells #[.slice A xs.length c] 110 (0, 0))) (hr : Kd.C k71 w A xs.length xs) (hi : i < xs.length) (hk : k < xs.length) :
    Calls Try.prog 74 #[.pointer (some ⟨hb, 0, none⟩), .int .i64 (i : Int), .int .i64 (k : Int)] w fun e w' => e = .returned (.bool (decide (Ahead xs[i] xs[k]))) ∧ Below w.heap.size w w' := by
  have p0 : 0 ≤ ((i : Nat) : Int) := by omega
  have p1 : ((i : Nat) : Int) < (xs.length : Int) := by omega
  have q0 : 0 ≤ ((k : Nat) : Int) := by omega
  have q1 : ((k : Nat) : Int) < (xs.length : Int) := by omega
  obtain ⟨ad, e0, hx0, hx1⟩ := at_T71 hr (i : Int) p0 p1
  cases e0
  obtain ⟨ad2, e2, hy0, hy1⟩ := at_T71 hr (k : Int) q0 q1
  cases e2
  rw [Int.toNat_natCast] at hx0 hx1 hy0 hy1
  rw [rd71 xs i hi] at hx0 hx1
  rw [rd71 xs k hk] at hy0 hy1
  generalize xs[i] = x at hx0 hx1 ⊢
  generalize xs[k] = y at hy0 hy1 ⊢
  have h0 := (blk_cell hh 0).trans rfl
  have n0 := World.new_ne w _ h0
  have n1 := World.new_ne w _ hx0
  have n2 := World.new_ne w _ hx1
  have n3 := World.new_ne w _ hy0
  have n4 := World.new_ne w _ hy1
  have HB := Aside0.mk (Below.refl w.heap.size w)
  have hc1 := cmp_Compare_eq x.f1 y.f1
  have hc0 := cmp_Compare_eq x.f0 y.f0
  have hor := cmp_Or2_eq (cmpI x.f1 y.f1) (cmpI x.f0 y.f0)
  have hao := ahead_or x y
  rw [← hao]
  clear hao
  generalize (if cmpI x.f1 y.f1 = 0 then cmpI x.f0 y.f0 else cmpI x.f1 y.f1) = r at hor ⊢
  generalize cmpI x.f1 y.f1 = r1 at hc1 hor
  generalize cmpI x.f0 y.f0 = r0 at hc0 hor
  have HOR := Aside0.mk hor
  have HC1 := Aside0.mk hc1
  have HC0 := Aside0.mk hc0
  clear hr hi hk hh hor hc1 hc0
  go_enter Try.func74, Try.ntmps74
  go_wp2
  go_region_held3 (fun w' => w'.cell? ⟨hb, 0, none⟩ = some (.slice (some ad) xs.length c) ∧ w'.cell? (ad.add (i * 2)) = some (.int .i64 x.f0) ∧ w'.cell? ⟨(ad.add (i * 2)).block, (ad.add (i * 2)).off + 1, none⟩ = some (.int .i64 x.f1) ∧ w'.cell? (ad.add (k * 2)) = some (.int .i64 y.f0) ∧ w'.cell? ⟨(ad.add (k * 2)).block, (ad.add (k * 2)).off + 1, none⟩ = some (.int .i64 y.f1)) (go_keep) (fail)
  · refine gen_world ?_
    intro W hW
    have hb : Below w.heap.size w W := by rw [hW]; first | exact below_drew1 (below_alloc (below_alloc (Below.refl _ _) _) _) | exact (below_alloc (below_alloc (below_drew1 (Below.refl _ _)) _) _)
    have kx : W.heap[w.heap.size]? = some (.cells #[.int .i64 x.f0, .int .i64 x.f1] 71 (0, 0)) := by rw [hW]; exact blk_drew (two_blocks w _ _).1
    have ky : W.heap[w.heap.size + 1]? = some (.cells #[.int .i64 y.f0, .int .i64 y.f1] 71 (0, 0)) := by rw [hW]; exact blk_drew (two_blocks w _ _).2
    have HB2 := Aside0.mk hb
    clear hW hb
    generalize w.heap.size + 1 = g2 at kx ky ⊢
    generalize w.heap.size = g1 at kx ky ⊢
    go_wp2
    go_region_held3 (fun w' => w'.cell? ⟨g1, 0, none⟩ = some (.int .i64 x.f0) ∧ w'.cell? ⟨g1, 1, none⟩ = some (.int .i64 x.f1) ∧ w'.cell? ⟨g2, 0, none⟩ = some (.int .i64 y.f0) ∧ w'.cell? ⟨g2, 1, none⟩ = some (.int .i64 y.f1)) (first | exact cells4 kx ky | exact cells4 (blk_alloc kx _) (blk_alloc ky _)) (first
      | (go_at_call 39; go_loud (refine (cmp_Compare_int.calls _ _ _ _ (by first | exact HC1.out | exact HC0.out)).mono ?_); rintro e w' ⟨rfl, ⟨n, rfl⟩⟩)
      | (go_at_call 38; go_loud (refine (cmp_Or_int.calls 3 _ 2 [_, _] _ _ (lit2 (blk_new _ _)) (Nat.le_refl 2) HOR.out).mono ?_); rintro e w' ⟨rfl, ⟨n, rfl⟩⟩))
    go_wp2
    go_ret
    refine ⟨rfl, below_step HB2.out ?_⟩
    repeat (first | exact Below.refl _ _ | apply below_alloc | apply pw_below_drewN | apply below_drew1)
  · refine gen_world ?_
    intro W hW
    have hb : Below w.heap.size w W := by rw [hW]; first | exact below_drew1 (below_alloc (below_alloc (Below.refl _ _) _) _) | exact (below_alloc (below_alloc (below_drew1 (Below.refl _ _)) _) _)
    have kx : W.heap[w.heap.size + 1]? = some (.cells #[.int .i64 x.f0, .int .i64 x.f1] 71 (0, 0)) := by rw [hW]; exact blk_drew (two_blocks w _ _).2
    have ky : W.heap[w.heap.size]? = some (.cells #[.int .i64 y.f0, .int .i64 y.f1] 71 (0, 0)) := by rw [hW]; exact blk_drew (two_blocks w _ _).1
    have HB2 := Aside0.mk hb
    clear hW hb
    generalize w.heap.size + 1 = g2 at kx ky ⊢
    generalize w.heap.size = g1 at kx ky ⊢
    go_wp2
    go_region_held3 (fun w' => w'.cell? ⟨g2, 0, none⟩ = some (.int .i64 x.f0) ∧ w'.cell? ⟨g2, 1, none⟩ = some (.int .i64 x.f1) ∧ w'.cell? ⟨g1, 0, none⟩ = some (.int .i64 y.f0) ∧ w'.cell? ⟨g1, 1, none⟩ = some (.int .i64 y.f1)) (first | exact cells4 kx ky | exact cells4 (blk_alloc kx _) (blk_alloc ky _)) (first
      | (go_at_call 39; go_loud (refine (cmp_Compare_int.calls _ _ _ _ (by first | exact HC1.out | exact HC0.out)).mono ?_); rintro e w' ⟨rfl, ⟨n, rfl⟩⟩)
      | (go_at_call 38; go_loud (refine (cmp_Or_int.calls 3 _ 2 [_, _] _ _ (lit2 (blk_new _ _)) (Nat.le_refl 2) HOR.out).mono ?_); rintro e w' ⟨rfl, ⟨n, rfl⟩⟩))
    go_wp2
    go_ret
    refine ⟨rfl, below_step HB2.out ?_⟩
    repeat (first | exact Below.refl _ _ | apply below_alloc | apply pw_below_drewN | apply below_drew1)
end Go.Proofs.Ytijflnpgiegajaa.Q
end
section
namespace Go.Proofs.Ytijflnpgiegajaa.Q
open Go.RowKit Go.Sort Go.Proofs.YtijflnpgiegajaaW.PrintWords Go.Proofs.YtijflnpgiegajaaW.PrintLast Go.Proofs.YtijflnpgiegajaaW.PrintMore Go.Proofs.Ytijflnpgiegajaa.IM Go.Proofs.Ytijflnpgiegajaa.Ev
set_option linter.unusedVariables false
set_option linter.unusedSimpArgs false
theorem holds_R {W : World} {base : Nat} {ok : Nat → Prop} {v : Value} {xs : List S71} (hR : Kd.R k71 71 W base ok v xs) (hne : 0 < xs.length) :
    ∃ b cap cur, v = .slice (some ⟨b, 0, none⟩) xs.length cap ∧ base ≤ b ∧ b < W.heap.size ∧ W.heap[b]? = some (.cells cur 71 (0, 0)) ∧ xs.length * 2 ≤ cur.size ∧ Go.Sort.HoldsK encR 2 W b 0 xs.toArray := by
  obtain ⟨h0, inner, ho, hr⟩ := hR
  have hfl := reps_flat hr
  rcases ho.2 with ⟨_, hn⟩ | ⟨b, cap, cur, rfl, hb, hh, h1, h2, h3, h4⟩
  · omega
  have hbl : b < W.heap.size := (Array.getElem?_eq_some_iff.1 hh).1
  have h4' : cur.toList.take (xs.length * 2) = inner := h4
  have h3' : cur.size = cap * 2 := h3
  refine ⟨b, cap, cur, rfl, hb, hbl, hh, by omega, fun t ht => ?_⟩
  have ht' : t < xs.length * 2 := by simpa using ht
  refine ⟨?_, by simp [World.frozen?, hh]⟩
  simp only [World.cell?, hh, Nat.zero_add]
  simp only [Option.isSome_none, Bool.false_eq_true, if_false]
  show cur[t]? = some (flatK encR 2 xs.toArray)[t]!
  have : (cur.toList.take (xs.length * 2))[t]? = inner[t]? := by rw [h4']
  rw [List.getElem?_take_of_lt ht', hfl, Array.getElem?_toList, Array.getElem?_toList] at this
  rw [this, Array.getElem?_eq_getElem (by simpa using ht'), getElem!_pos (flatK encR 2 xs.toArray) t (by simpa using ht')]
theorem R_laid {W : World} {base : Nat} {ok : Nat → Prop} {b cap n : Nat} {xs : List S71} (hR : Kd.R k71 71 W base ok (.slice (some ⟨b, 0, none⟩) xs.length cap) xs) (d' : Array S71) (hs : d'.size = xs.length) (os : Array Obj) :
    Kd.R k71 71 (sortWorldK encR 2 W b 0 n d' os) base ok (.slice (some ⟨b, 0, none⟩) xs.length cap) d'.toList ∧ W.grownBy (sortWorldK encR 2 W b 0 n d' os) (some b) := by
  obtain ⟨h0, inner, ho, hr⟩ := hR
  rcases ho.2 with ⟨hv, _⟩ | ⟨b', cap', cur, he, hb, hh, h1, h2, h3, h4⟩
  · injection hv with hv
    exact absurd hv (by simp)
  injection he with he _ he2
  injection he with he
  injection he with he
  subst he he2
  have hbl : b < W.heap.size := (Array.getElem?_eq_some_iff.1 hh).1
  have h3' : cur.size = cap * 2 := h3
  have hheap : (sortWorldK encR 2 W b 0 n d' os).heap[b]? = some (.cells (putCells id 0 (flatK encR 2 d') cur) 71 (0, 0)) := by
    unfold sortWorldK putRowK
    rw [heap_grow_old _ _ (by simpa using hbl)]
    simp [putRow, mapBlock, Sort.ahead, Array.getElem?_modify, hh, onCells]
  have hl : d'.toList.length = xs.length := by simpa using hs
  refine ⟨⟨h0, (flatK encR 2 d').toList, ⟨?_, .inr ⟨b, cap, _, by rw [hl], hb, hheap, by rw [hl]; exact h1, h2, ?_, ?_⟩⟩, ?_⟩, ?_⟩
  · simp; rfl
  · simp [putCells]; exact h3
  · have := take_putF cur (flatK encR 2 d') (by simp [hs, h3']; omega)
    rw [size_flatK] at this
    rw [hl, ← hs]
    exact this
  · exact flat_reps _ _ _ d'
  · refine ⟨rfl, rfl, rfl, by simp [sortWorldK, putRowK], fun k hk hne => ?_⟩
    unfold sortWorldK putRowK
    rw [heap_grow_old _ _ (by simpa using hk)]
    have : b ≠ k := fun e => hne (by rw [← e])
    simp [putRow, mapBlock, Sort.ahead, Array.getElem?_modify, this]
theorem setCell_blk {W : World} {g T : Nat} {cur : Array Value} (h : W.heap[g]? = some (.cells cur T (0, 0))) (o : Nat) (v : Value) : (W.setCell ⟨g, o, none⟩ v).heap[g]? = some (.cells (cur.setIfInBounds o v) T (0, 0)) := by
  rw [setCell_eq]
  simp [mapBlock, Array.getElem?_modify, h, onCells]
theorem set2_blk {W : World} {g T : Nat} {cur : Array Value} (h : W.heap[g]? = some (.cells cur T (0, 0))) (o1 o2 : Nat) (v1 v2 : Value) : ((W.setCell ⟨g, o1, none⟩ v1).setCell ⟨g, o2, none⟩ v2).heap[g]? = some (.cells ((cur.setIfInBounds o1 v1).setIfInBounds o2 v2) T (0, 0)) :=
  setCell_blk (setCell_blk h o1 v1) o2 v2
section
variable {P : Program} {ops : Array Oper} {o : Oper} {a : Act} {Q : Exit → Act → World → Prop} {Kc : Act → World → Prop}
theorem store71_step {ops : Array Oper} {o : Oper} {a : Act} {Q : Exit → Act → World → Prop} {Kc : Act → World → Prop} {W : World} {x y : Operand} {g off T : Nat} {p q : Int} {cur : Array Value} (hw : Region.wanted o (yielded ops a.tmps) = true) (ho : o.op = .store 71 x y) (hd : o.dst = none)
    (hx : a.eval x = .pointer (some ⟨g, off, none⟩)) (hy : a.eval y = .agg #[.int .i64 p, .int .i64 q]) (hblk : W.heap[g]? = some (.cells cur T (0, 0))) (hfit : off + 2 ≤ cur.size)
    (h : Kc (a.put none undef) ((W.setCell ⟨g, off, none⟩ (.int .i64 p)).setCell ⟨g, off + 1, none⟩ (.int .i64 q))) :
    if Region.wanted o (yielded ops a.tmps) = true then Oper.wp Try.prog o a W Kc Q else Kc (a.put none undef) W := by
  rw [if_pos hw]
  have hrun := run_storeCells_at Try.prog g off T [.int .i64 p, .int .i64 q] 0 cur W hblk (by simpa using hfit) (by simp [Value.oneCell'])
  have hnew : (cur.toList.take (off + 0) ++ [Value.int .i64 p, Value.int .i64 q] ++ cur.toList.drop (off + 0 + [Value.int .i64 p, Value.int .i64 q].length)).toArray = (cur.setIfInBounds off (.int .i64 p)).setIfInBounds (off + 1) (.int .i64 q) := by
    apply Array.ext_getElem?
    intro j
    simp only [List.getElem?_toArray, Array.getElem?_setIfInBounds, Array.size_setIfInBounds, Nat.add_zero, List.length_cons, List.length_nil, List.append_assoc]
    rcases Nat.lt_trichotomy j off with hj | hj | hj
    · rw [List.getElem?_append_left (by simp; omega), List.getElem?_take_of_lt hj, if_neg (by omega), if_neg (by omega), Array.getElem?_toList]
    · subst hj
      rw [List.getElem?_append_right (by simp; omega), if_neg (by omega), if_pos rfl, if_pos (by omega)]
      have : j - (cur.toList.take j).length = 0 := by simp; omega
      rw [this]; rfl
    · rcases Nat.lt_or_ge (off + 1) j with h2 | h2
      · rw [List.getElem?_append_right (by simp; omega), if_neg (by omega), if_neg (by omega)]
        have : j - (cur.toList.take off).length = (j - off - 2) + 2 := by simp; omega
        rw [this]
        show (cur.toList.drop (off + (0 + 1 + 1)))[j - off - 2]? = _
        rw [List.getElem?_drop, Array.getElem?_toList]
        congr 1
        omega
      · obtain rfl : j = off + 1 := by omega
        rw [List.getElem?_append_right (by simp; omega), if_pos rfl, if_pos (by omega)]
        have : off + 1 - (cur.toList.take off).length = 1 := by simp; omega
        rw [this]; rfl
  have hworld : W.setRow g ((cur.setIfInBounds off (.int .i64 p)).setIfInBounds (off + 1) (.int .i64 q)) = (W.setCell ⟨g, off, none⟩ (.int .i64 p)).setCell ⟨g, off + 1, none⟩ (.int .i64 q) := by
    rw [setCell_eq, setCell_eq, mapBlock_mapBlock]
    unfold World.setRow mapBlock
    congr 1
    apply Array.ext_getElem?
    intro j
    simp only [Array.getElem?_modify]
    by_cases hj : g = j
    · subst hj
      simp [hblk, onCells]
    · simp [hj]
  rw [hnew, hworld] at hrun
  unfold Oper.wp
  have h1 : (execOp a.eval o).run Try.prog W = .ok .skip ((W.setCell ⟨g, off, none⟩ (.int .i64 p)).setCell ⟨g, off + 1, none⟩ (.int .i64 q)) := by
    have hinfo := info71
    cases hq : Try.prog.info? 71 with
    | none => simp [hq] at hinfo
    | some i =>
      have hs : i.size = 2 := by simp [hq] at hinfo; omega
      simp [execOp, ho, hx, hy, Instr.storeAt, Instr.sureAddr, storeVar, sizeOf, typeInfo, hq, hs, Value.cells, hrun, Result.andThen]
  rw [h1]
  show Kc (a.put o.dst undef) _
  rw [hd]
  exact h
end
theorem swap_fin {w : World} {g cap : Nat} {xs : List S71} {base : Nat} {ok : Nat → Prop} {x y : S71} (hR : Kd.R k71 71 w base ok (.slice (some ⟨g, 0, none⟩) xs.length cap) xs) (hH : HoldsK encR 2 w g 0 xs.toArray) (hg : g < w.heap.size) {i k : Nat} (hi : i < xs.length) (hk : k < xs.length) (hx : x = xs[i]) (hy : y = xs[k]) :
    Kd.R k71 71 ((((w.setCell ⟨g, i * 2, none⟩ (.int .i64 y.f0)).setCell ⟨g, i * 2 + 1, none⟩ (.int .i64 y.f1)).setCell ⟨g, k * 2, none⟩ (.int .i64 x.f0)).setCell ⟨g, k * 2 + 1, none⟩ (.int .i64 x.f1)).drew base ok (.slice (some ⟨g, 0, none⟩) xs.length cap) (swp xs.toArray i k).toList ∧
    w.grownBy ((((w.setCell ⟨g, i * 2, none⟩ (.int .i64 y.f0)).setCell ⟨g, i * 2 + 1, none⟩ (.int .i64 y.f1)).setCell ⟨g, k * 2, none⟩ (.int .i64 x.f0)).setCell ⟨g, k * 2 + 1, none⟩ (.int .i64 x.f1)).drew (some g) := by
  have hs := swap_worldK encR 2 (fun _ => rfl) w 0 1 g 0 xs.toArray i k (by simpa using hi) (by simpa using hk)
  have e0 : putRowK encR 2 (Sort.ahead w 0) g 0 xs.toArray = w := putRowK_self encR 2 w g 0 xs.toArray hH
  have gi : xs.toArray[i]! = x := by rw [hx, getElem!_pos xs.toArray i (by simpa using hi)]; simp
  have gk : xs.toArray[k]! = y := by rw [hy, getElem!_pos xs.toArray k (by simpa using hk)]; simp
  rw [e0, gi, gk, Nat.zero_add, Nat.zero_add] at hs
  have e1 : ((((w.setCell ⟨g, i * 2, none⟩ (.int .i64 y.f0)).setCell ⟨g, i * 2 + 1, none⟩ (.int .i64 y.f1)).setCell ⟨g, k * 2, none⟩ (.int .i64 x.f0)).setCell ⟨g, k * 2 + 1, none⟩ (.int .i64 x.f1)).drew = sortWorldK encR 2 w g 0 1 (swp xs.toArray i k) #[] := by
    unfold sortWorldK
    rw [grow_empty]
    exact hs
  rw [e1]
  exact R_laid hR _ (by simp [size_swp]) _
set_option maxHeartbeats 8000000 in
set_option maxRecDepth 100000 in
theorem swap_calls (hb g cap : Nat) (xs : List S71) (i k : Nat) (w : World) (hh : w.heap[hb]? = some (.cells #[.slice (some ⟨g, 0, none⟩) xs.length cap] 110 (0, 0))) (base : Nat) (ok : Nat → Prop) (hR : Kd.R k71 71 w base ok (.slice (some ⟨g, 0, none⟩) xs.length cap) xs) (hi : i < xs.length) (hk : k < xs.length) :
    Calls Try.prog 70 #[.pointer (some ⟨hb, 0, none⟩), .int .i64 (i : Int), .int .i64 (k : Int)] w fun e w' => e = .returned (.tuple #[]) ∧ Kd.R k71 71 w' base ok (.slice (some ⟨g, 0, none⟩) xs.length cap) (swp xs.toArray i k).toList ∧ w.grownBy w' (some g) := by
  have p0 : 0 ≤ ((i : Nat) : Int) := by omega
  have p1 : ((i : Nat) : Int) < (xs.length : Int) := by omega
  have q0 : 0 ≤ ((k : Nat) : Int) := by omega
  have q1 : ((k : Nat) : Int) < (xs.length : Int) := by omega
  obtain ⟨b, cap', cur, he, hbase, hlt, hcur, hcs, hH⟩ := holds_R hR (by omega)
  injection he with he len_eq he2
  injection he with he
  injection he with he off_eq spot_eq
  subst he he2
  have hsz : xs.toArray.size = xs.length := by simp
  have hx0 := hH.cell (i := i) (c := 0) (by omega) (by omega)
  have hx1 := hH.cell (i := i) (c := 1) (by omega) (by omega)
  have hy0 := hH.cell (i := k) (c := 0) (by omega) (by omega)
  have hy1 := hH.cell (i := k) (c := 1) (by omega) (by omega)
  have h0 : w.cell? ⟨hb, 0, none⟩ = some (.slice (some ⟨g, 0, none⟩) xs.length cap) := (blk_cell hh 0).trans rfl
  have hne : hb ≠ g := fun e => by rw [e, hcur] at hh; injection hh with hh; injection hh with _ hh; exact absurd hh (by decide)
  have gi : xs.toArray[i]! = xs[i] := by rw [getElem!_pos xs.toArray i (by simpa using hi)]; simp
  have gk : xs.toArray[k]! = xs[k] := by rw [getElem!_pos xs.toArray k (by simpa using hk)]; simp
  rw [gi, Nat.zero_add, Nat.add_zero] at hx0
  rw [gi, Nat.zero_add] at hx1
  rw [gk, Nat.zero_add, Nat.add_zero] at hy0
  rw [gk, Nat.zero_add] at hy1
  have cx0 : w.cell? ⟨g, i * 2, none⟩ = some (.int .i64 (xs[i]).f0) := hx0.1
  have cx1 : w.cell? ⟨g, i * 2 + 1, none⟩ = some (.int .i64 (xs[i]).f1) := hx1.1
  have cy0 : w.cell? ⟨g, k * 2, none⟩ = some (.int .i64 (xs[k]).f0) := hy0.1
  have cy1 : w.cell? ⟨g, k * 2 + 1, none⟩ = some (.int .i64 (xs[k]).f1) := hy1.1
  have fx0 := hx0.2
  have fx1 := hx1.2
  have fy0 := hy0.2
  have fy1 := hy1.2
  have HR := Aside0.mk hR
  have HH := Aside0.mk hH
  have HLT := Aside0.mk hlt
  have HC := Aside0.mk hcur
  have HSZ := Aside0.mk (show i * 2 + 2 ≤ cur.size ∧ k * 2 + 2 ≤ cur.size from ⟨by omega, by omega⟩)
  clear hR hH hh hx0 hx1 hy0 hy1 hcur gi gk hlt hbase len_eq off_eq spot_eq
  obtain ⟨x, hx⟩ : ∃ x, x = xs[i] := ⟨_, rfl⟩
  obtain ⟨y, hy⟩ : ∃ y, y = xs[k] := ⟨_, rfl⟩
  rw [← hx] at cx0 cx1
  rw [← hy] at cy0 cy1
  have HX := Aside0.mk hx
  have HY := Aside0.mk hy
  clear hx hy
  go_enter Try.func70, Try.ntmps70
  go_wp2
  refine start_ (n := 28) (S := fun w' => w'.cell? ⟨hb, 0, none⟩ = some (.slice (some ⟨g, 0, none⟩) xs.length cap) ∧ w'.cell? ⟨g, i * 2, none⟩ = some (.int .i64 x.f0) ∧ w'.cell? ⟨g, i * 2 + 1, none⟩ = some (.int .i64 x.f1) ∧ w'.cell? ⟨g, k * 2, none⟩ = some (.int .i64 y.f0) ∧ w'.cell? ⟨g, k * 2 + 1, none⟩ = some (.int .i64 y.f1)) (ds := [25, 27]) #[false, false, false, false, false, false, false, false, false, false, false, false, false, false, false, false, false, false, false, false, false, false, false, false, false, false, false, false] (by kernel_rfl) rfl rfl ⟨h0, cx0, cx1, cy0, cy1⟩ (fun hHeld => ?_)
  refine pure_ (i := 0) (N := (some 6)) (v := ?_) (a' := ?_) #[true, false, false, false, false, false, false, false, false, false, false, false, false, false, false, false, false, false, false, false, false, false, false, false, false, false, false, false] rfl rfl (by kernel_rfl) (fun _ _ _ h => h) (Or.inl ⟨by rfl, ?_⟩) ?_ ?_
  rotate_left
  · intro w'
    go_simp
    with_reducible rfl
  rotate_left
  · simp only [Act.put, List.setIfInBounds_toArray, List.set_cons_zero, List.set_cons_succ, i64_w, i32_w]
    rfl
  refine pure_ (i := 1) (N := (some 7)) (v := ?_) (a' := ?_) #[true, true, false, false, false, false, false, false, false, false, false, false, false, false, false, false, false, false, false, false, false, false, false, false, false, false, false, false] rfl rfl (by kernel_rfl) (fun _ _ _ h => h) (Or.inl ⟨by rfl, ?_⟩) ?_ ?_
  rotate_left
  · intro w'
    go_simp
    with_reducible rfl
  rotate_left
  · simp only [Act.put, List.setIfInBounds_toArray, List.set_cons_zero, List.set_cons_succ, i64_w, i32_w]
    rfl
  refine pure_ (i := 2) (N := (some 8)) (v := ?_) (a' := ?_) #[true, true, true, false, false, false, false, false, false, false, false, false, false, false, false, false, false, false, false, false, false, false, false, false, false, false, false, false] rfl rfl (by kernel_rfl) (fun _ _ _ h => h) (Or.inl ⟨by rfl, ?_⟩) ?_ ?_
  rotate_left
  · intro w'
    go_simp
    with_reducible rfl
  rotate_left
  · simp only [Act.put, List.setIfInBounds_toArray, List.set_cons_zero, List.set_cons_succ, i64_w, i32_w]
    rfl
  refine take_ (i := 3) (N := (some 9)) (v := ?_) (a' := ?_) #[true, true, true, true, false, false, false, false, false, false, false, false, false, false, false, false, false, false, false, false, false, false, false, false, false, false, false, false] rfl rfl (by kernel_rfl) (fun _ _ _ h => h) (Or.inl ⟨by rfl, ?_⟩) hHeld ?_ ?_
  rotate_left
  · rintro w' ⟨s0, s1, s2, s3, s4⟩
    go_simp
    with_reducible rfl
  rotate_left
  · simp only [Act.put, List.setIfInBounds_toArray, List.set_cons_zero, List.set_cons_succ, i64_w, i32_w]
    rfl
  refine pure_ (i := 4) (N := (some 10)) (v := ?_) (a' := ?_) #[true, true, true, true, true, false, false, false, false, false, false, false, false, false, false, false, false, false, false, false, false, false, false, false, false, false, false, false] rfl rfl (by kernel_rfl) (fun _ _ _ h => h) (Or.inl ⟨by rfl, ?_⟩) ?_ ?_
  rotate_left
  · intro w'
    go_simp
    with_reducible rfl
  rotate_left
  · simp only [Act.put, List.setIfInBounds_toArray, List.set_cons_zero, List.set_cons_succ, i64_w, i32_w]
    rfl
  refine pure_ (i := 5) (N := (some 11)) (v := ?_) (a' := ?_) #[true, true, true, true, true, true, false, false, false, false, false, false, false, false, false, false, false, false, false, false, false, false, false, false, false, false, false, false] rfl rfl (by kernel_rfl) (fun _ _ _ h => h) (Or.inl ⟨by rfl, ?_⟩) ?_ ?_
  rotate_left
  · intro w'
    go_simp
    with_reducible rfl
  rotate_left
  · simp only [Act.put, List.setIfInBounds_toArray, List.set_cons_zero, List.set_cons_succ, i64_w, i32_w]
    rfl
  refine pure_ (i := 6) (N := (some 12)) (v := ?_) (a' := ?_) #[true, true, true, true, true, true, true, false, false, false, false, false, false, false, false, false, false, false, false, false, false, false, false, false, false, false, false, false] rfl rfl (by kernel_rfl) (fun _ _ _ h => h) (Or.inl ⟨by rfl, ?_⟩) ?_ ?_
  rotate_left
  · intro w'
    go_simp
    with_reducible rfl
  rotate_left
  · simp only [Act.put, List.setIfInBounds_toArray, List.set_cons_zero, List.set_cons_succ, i64_w, i32_w]
    rfl
  refine pure_ (i := 7) (N := (some 13)) (v := ?_) (a' := ?_) #[true, true, true, true, true, true, true, true, false, false, false, false, false, false, false, false, false, false, false, false, false, false, false, false, false, false, false, false] rfl rfl (by kernel_rfl) (fun _ _ _ h => h) (Or.inl ⟨by rfl, ?_⟩) ?_ ?_
  rotate_left
  · intro w'
    go_simp
    with_reducible rfl
  rotate_left
  · simp only [Act.put, List.setIfInBounds_toArray, List.set_cons_zero, List.set_cons_succ, i64_w, i32_w]
    rfl
  refine take_ (i := 8) (N := (some 14)) (v := ?_) (a' := ?_) #[true, true, true, true, true, true, true, true, true, false, false, false, false, false, false, false, false, false, false, false, false, false, false, false, false, false, false, false] rfl rfl (by kernel_rfl) (fun _ _ _ h => h) (Or.inl ⟨by rfl, ?_⟩) hHeld ?_ ?_
  rotate_left
  · rintro w' ⟨s0, s1, s2, s3, s4⟩
    go_simp
    with_reducible rfl
  rotate_left
  · simp only [Act.put, List.setIfInBounds_toArray, List.set_cons_zero, List.set_cons_succ, i64_w, i32_w]
    rfl
  refine pure_ (i := 9) (N := (some 15)) (v := ?_) (a' := ?_) #[true, true, true, true, true, true, true, true, true, true, false, false, false, false, false, false, false, false, false, false, false, false, false, false, false, false, false, false] rfl rfl (by kernel_rfl) (fun _ _ _ h => h) (Or.inl ⟨by rfl, ?_⟩) ?_ ?_
  rotate_left
  · intro w'
    go_simp
    with_reducible rfl
  rotate_left
  · simp only [Act.put, List.setIfInBounds_toArray, List.set_cons_zero, List.set_cons_succ, i64_w, i32_w]
    rfl
  refine pure_ (i := 10) (N := (some 16)) (v := ?_) (a' := ?_) #[true, true, true, true, true, true, true, true, true, true, true, false, false, false, false, false, false, false, false, false, false, false, false, false, false, false, false, false] rfl rfl (by kernel_rfl) (fun _ _ _ h => h) (Or.inl ⟨by rfl, ?_⟩) ?_ ?_
  rotate_left
  · intro w'
    go_simp
    with_reducible rfl
  rotate_left
  · simp only [Act.put, List.setIfInBounds_toArray, List.set_cons_zero, List.set_cons_succ, i64_w, i32_w]
    rfl
  refine pure_ (i := 11) (N := (some 17)) (v := ?_) (a' := ?_) #[true, true, true, true, true, true, true, true, true, true, true, true, false, false, false, false, false, false, false, false, false, false, false, false, false, false, false, false] rfl rfl (by kernel_rfl) (fun _ _ _ h => h) (Or.inl ⟨by rfl, ?_⟩) ?_ ?_
  rotate_left
  · intro w'
    go_simp
    with_reducible rfl
  rotate_left
  · simp only [Act.put, List.setIfInBounds_toArray, List.set_cons_zero, List.set_cons_succ, i64_w, i32_w]
    rfl
  refine pure_ (i := 12) (N := (some 18)) (v := ?_) (a' := ?_) #[true, true, true, true, true, true, true, true, true, true, true, true, true, false, false, false, false, false, false, false, false, false, false, false, false, false, false, false] rfl rfl (by kernel_rfl) (fun _ _ _ h => h) (Or.inl ⟨by rfl, ?_⟩) ?_ ?_
  rotate_left
  · intro w'
    go_simp
    with_reducible rfl
  rotate_left
  · simp only [Act.put, List.setIfInBounds_toArray, List.set_cons_zero, List.set_cons_succ, i64_w, i32_w]
    rfl
  refine take_ (i := 13) (N := (some 19)) (v := ?_) (a' := ?_) #[true, true, true, true, true, true, true, true, true, true, true, true, true, true, false, false, false, false, false, false, false, false, false, false, false, false, false, false] rfl rfl (by kernel_rfl) (fun _ _ _ h => h) (Or.inl ⟨by rfl, ?_⟩) hHeld ?_ ?_
  rotate_left
  · rintro w' ⟨s0, s1, s2, s3, s4⟩
    go_simp
    with_reducible rfl
  rotate_left
  · simp only [Act.put, List.setIfInBounds_toArray, List.set_cons_zero, List.set_cons_succ, i64_w, i32_w]
    rfl
  refine pure_ (i := 14) (N := (some 20)) (v := ?_) (a' := ?_) #[true, true, true, true, true, true, true, true, true, true, true, true, true, true, true, false, false, false, false, false, false, false, false, false, false, false, false, false] rfl rfl (by kernel_rfl) (fun _ _ _ h => h) (Or.inl ⟨by rfl, ?_⟩) ?_ ?_
  rotate_left
  · intro w'
    go_simp
    with_reducible rfl
  rotate_left
  · simp only [Act.put, List.setIfInBounds_toArray, List.set_cons_zero, List.set_cons_succ, i64_w, i32_w]
    rfl
  refine pure_ (i := 15) (N := (some 21)) (v := ?_) (a' := ?_) #[true, true, true, true, true, true, true, true, true, true, true, true, true, true, true, true, false, false, false, false, false, false, false, false, false, false, false, false] rfl rfl (by kernel_rfl) (fun _ _ _ h => h) (Or.inl ⟨by rfl, ?_⟩) ?_ ?_
  rotate_left
  · intro w'
    go_simp
    with_reducible rfl
  rotate_left
  · simp only [Act.put, List.setIfInBounds_toArray, List.set_cons_zero, List.set_cons_succ, i64_w, i32_w]
    rfl
  refine take_ (i := 16) (N := (some 22)) (v := ?_) (a' := ?_) #[true, true, true, true, true, true, true, true, true, true, true, true, true, true, true, true, true, false, false, false, false, false, false, false, false, false, false, false] rfl rfl (by kernel_rfl) (fun _ _ _ h => h) (Or.inl ⟨by rfl, ?_⟩) hHeld ?_ ?_
  rotate_left
  · rintro w' ⟨s0, s1, s2, s3, s4⟩
    go_simp
    with_reducible rfl
  rotate_left
  · simp only [Act.put, List.setIfInBounds_toArray, List.set_cons_zero, List.set_cons_succ, i64_w, i32_w]
    rfl
  refine pure_ (i := 17) (N := (some 23)) (v := ?_) (a' := ?_) #[true, true, true, true, true, true, true, true, true, true, true, true, true, true, true, true, true, true, false, false, false, false, false, false, false, false, false, false] rfl rfl (by kernel_rfl) (fun _ _ _ h => h) (Or.inl ⟨by rfl, ?_⟩) ?_ ?_
  rotate_left
  · intro w'
    go_simp
    with_reducible rfl
  rotate_left
  · simp only [Act.put, List.setIfInBounds_toArray, List.set_cons_zero, List.set_cons_succ, i64_w, i32_w]
    rfl
  refine pure_ (i := 18) (N := (some 24)) (v := ?_) (a' := ?_) #[true, true, true, true, true, true, true, true, true, true, true, true, true, true, true, true, true, true, true, false, false, false, false, false, false, false, false, false] rfl rfl (by kernel_rfl) (fun _ _ _ h => h) (Or.inl ⟨by rfl, ?_⟩) ?_ ?_
  rotate_left
  · intro w'
    go_simp
    with_reducible rfl
  rotate_left
  · simp only [Act.put, List.setIfInBounds_toArray, List.set_cons_zero, List.set_cons_succ, i64_w, i32_w]
    rfl
  refine pure_ (i := 19) (N := (some 25)) (v := ?_) (a' := ?_) #[true, true, true, true, true, true, true, true, true, true, true, true, true, true, true, true, true, true, true, true, false, false, false, false, false, false, false, false] rfl rfl (by kernel_rfl) (fun _ _ _ h => h) (Or.inl ⟨by rfl, ?_⟩) ?_ ?_
  rotate_left
  · intro w'
    go_simp
    with_reducible rfl
  rotate_left
  · simp only [Act.put, List.setIfInBounds_toArray, List.set_cons_zero, List.set_cons_succ, i64_w, i32_w]
    rfl
  refine take_ (i := 20) (N := (some 26)) (v := ?_) (a' := ?_) #[true, true, true, true, true, true, true, true, true, true, true, true, true, true, true, true, true, true, true, true, true, false, false, false, false, false, false, false] rfl rfl (by kernel_rfl) (fun _ _ _ h => h) (Or.inl ⟨by rfl, ?_⟩) hHeld ?_ ?_
  rotate_left
  · rintro w' ⟨s0, s1, s2, s3, s4⟩
    go_simp
    with_reducible rfl
  rotate_left
  · simp only [Act.put, List.setIfInBounds_toArray, List.set_cons_zero, List.set_cons_succ, i64_w, i32_w]
    rfl
  refine pure_ (i := 21) (N := (some 27)) (v := ?_) (a' := ?_) #[true, true, true, true, true, true, true, true, true, true, true, true, true, true, true, true, true, true, true, true, true, true, false, false, false, false, false, false] rfl rfl (by kernel_rfl) (fun _ _ _ h => h) (Or.inl ⟨by rfl, ?_⟩) ?_ ?_
  rotate_left
  · intro w'
    go_simp
    with_reducible rfl
  rotate_left
  · simp only [Act.put, List.setIfInBounds_toArray, List.set_cons_zero, List.set_cons_succ, i64_w, i32_w]
    rfl
  refine pure_ (i := 22) (N := (some 28)) (v := ?_) (a' := ?_) #[true, true, true, true, true, true, true, true, true, true, true, true, true, true, true, true, true, true, true, true, true, true, true, false, false, false, false, false] rfl rfl (by kernel_rfl) (fun _ _ _ h => h) (Or.inl ⟨by rfl, ?_⟩) ?_ ?_
  rotate_left
  · intro w'
    go_simp
    with_reducible rfl
  rotate_left
  · simp only [Act.put, List.setIfInBounds_toArray, List.set_cons_zero, List.set_cons_succ, i64_w, i32_w]
    rfl
  refine take_ (i := 23) (N := (some 29)) (v := ?_) (a' := ?_) #[true, true, true, true, true, true, true, true, true, true, true, true, true, true, true, true, true, true, true, true, true, true, true, true, false, false, false, false] rfl rfl (by kernel_rfl) (fun _ _ _ h => h) (Or.inl ⟨by rfl, ?_⟩) hHeld ?_ ?_
  rotate_left
  · rintro w' ⟨s0, s1, s2, s3, s4⟩
    go_simp
    with_reducible rfl
  rotate_left
  · simp only [Act.put, List.setIfInBounds_toArray, List.set_cons_zero, List.set_cons_succ, i64_w, i32_w]
    rfl
  refine pure_ (i := 24) (N := (some 30)) (v := ?_) (a' := ?_) #[true, true, true, true, true, true, true, true, true, true, true, true, true, true, true, true, true, true, true, true, true, true, true, true, true, false, false, false] rfl rfl (by kernel_rfl) (fun _ _ _ h => h) (Or.inl ⟨by rfl, ?_⟩) ?_ ?_
  rotate_left
  · intro w'
    go_simp
    with_reducible rfl
  rotate_left
  · simp only [Act.put, List.setIfInBounds_toArray, List.set_cons_zero, List.set_cons_succ, i64_w, i32_w]
    rfl
  refine last_ (i := 25) (N := none) #[true, true, true, true, true, true, true, true, true, true, true, true, true, true, true, true, true, true, true, true, true, true, true, true, true, true, false, false] rfl rfl (by kernel_rfl) (by decide) (fun K hK => ?_)
  refine store71_step (g := g) (off := i * 2) (by rfl) rfl rfl rfl rfl HC.out (by have := HSZ.out; omega) ?_
  refine hK.out _ _ ?_
  clear hK K
  refine norm_ (a' := ?_) ?_ ?_
  rotate_left
  · show Act.put _ none _ = _
    simp only [Act.put, List.setIfInBounds_toArray, List.set_cons_zero, List.set_cons_succ, i64_w, i32_w]
    rfl
  refine pure_ (i := 26) (N := (some 31)) (v := ?_) (a' := ?_) #[true, true, true, true, true, true, true, true, true, true, true, true, true, true, true, true, true, true, true, true, true, true, true, true, true, true, true, false] rfl rfl (by kernel_rfl) (fun _ _ _ h => h) (Or.inl ⟨by rfl, ?_⟩) ?_ ?_
  rotate_left
  · intro w'
    go_simp
    with_reducible rfl
  rotate_left
  · simp only [Act.put, List.setIfInBounds_toArray, List.set_cons_zero, List.set_cons_succ, i64_w, i32_w]
    rfl
  refine last_ (i := 27) (N := none) #[true, true, true, true, true, true, true, true, true, true, true, true, true, true, true, true, true, true, true, true, true, true, true, true, true, true, true, true] rfl rfl (by kernel_rfl) (by decide) (fun K hK => ?_)
  refine store71_step (g := g) (off := k * 2) (by rfl) rfl rfl rfl rfl (set2_blk HC.out _ _ _ _) (by have := HSZ.out; simp; omega) ?_
  refine hK.out _ _ ?_
  clear hK K
  refine norm_ (a' := ?_) ?_ ?_
  rotate_left
  · show Act.put _ none _ = _
    simp only [Act.put, List.setIfInBounds_toArray, List.set_cons_zero, List.set_cons_succ, i64_w, i32_w]
    rfl
  refine done_ (by kernel_rfl) ?_
  go_end0
  exact ⟨rfl, swap_fin HR.out HH.out HLT.out hi hk HX.out HY.out⟩
end Go.Proofs.Ytijflnpgiegajaa.Q
end
section
namespace Go.Proofs.Ytijflnpgiegajaa.Q
open Go.RowKit Go.Sort Go.Proofs.YtijflnpgiegajaaW.PrintWords Go.Proofs.YtijflnpgiegajaaW.PrintLast Go.Proofs.YtijflnpgiegajaaW.PrintMore Go.Proofs.Ytijflnpgiegajaa.IM Go.Proofs.Ytijflnpgiegajaa.Ev
set_option linter.unusedVariables false
set_option linter.unusedSimpArgs false
theorem grown_of_below {w w' : World} (h : Below w.heap.size w w') (row : Option Nat) : w.grownBy w' row := ⟨h.os, h.tape, h.output, h.size, fun k hk _ => h.block k hk⟩
structure HeapW (w : World) (base : Nat) (hb g cap : Nat) (xs : List S71) : Prop where
  hdr : w.heap[hb]? = some (.cells #[.slice (some ⟨g, 0, none⟩) xs.length cap] 110 (0, 0))
  row : Kd.R k71 71 w base (fun _ => True) (.slice (some ⟨g, 0, none⟩) xs.length cap) xs
theorem HeapW.below {w w' : World} {base hb g cap : Nat} {xs : List S71} (h : HeapW w base hb g cap xs) (hb' : Below w.heap.size w w') : HeapW w' base hb g cap xs :=
  ⟨blk_below h.hdr hb', Kd.R_below h.row hb'⟩
theorem HeapW.ne {w : World} {base hb g cap : Nat} {xs : List S71} (h : HeapW w base hb g cap xs) : hb ≠ g := fun e => by
  obtain ⟨inner, ho⟩ := Kd.R_own h.row
  obtain ⟨cells, hc⟩ := own_typed ho g rfl
  rw [← e, h.hdr] at hc
  injection hc with hc
  injection hc with _ hc
  exact absurd hc (by decide)
theorem HeapW.reads {w : World} {base hb g cap : Nat} {xs : List S71} (h : HeapW w base hb g cap xs) : Kd.C k71 w (some ⟨g, 0, none⟩) xs.length xs := by
  obtain ⟨A, c, he, _, hr⟩ := Kd.R_reads h.row
  injection he with he
  rw [he]
  exact hr
def swapL (xs : List S71) (i k : Nat) : List S71 := (swp xs.toArray i k).toList
@[simp] theorem swapL_length (xs : List S71) (i k : Nat) : (swapL xs i k).length = xs.length := by simp [swapL, size_swp]
set_option maxHeartbeats 8000000 in
set_option maxRecDepth 100000 in
theorem len_calls {w : World} {base hb g cap : Nat} {xs : List S71} (H : HeapW w base hb g cap xs) :
    Calls Try.prog 43 #[.pointer (some ⟨hb, 0, none⟩)] w fun e w' => e = .returned (.int .i64 (xs.length : Int)) ∧ Below w.heap.size w w' := by
  have h0 : w.cell? ⟨hb, 0, none⟩ = some (.slice (some ⟨g, 0, none⟩) xs.length cap) := (blk_cell H.hdr 0).trans rfl
  have HB := Aside0.mk (Below.refl w.heap.size w)
  clear H
  go_enter Try.func43, Try.ntmps43
  go_wp2
  go_ret
  exact ⟨rfl, HB.out⟩
set_option maxHeartbeats 8000000 in
set_option maxRecDepth 100000 in
theorem peek_calls {w : World} {base hb g cap : Nat} {x : S71} {xs : List S71} (H : HeapW w base hb g cap (x :: xs)) :
    Calls Try.prog 69 #[.pointer (some ⟨hb, 0, none⟩)] w fun e w' => e = .returned (.tuple #[.agg #[.int .i64 x.f0, .int .i64 x.f1], .bool true]) ∧ Below w.heap.size w w' := by
  have h0 : w.cell? ⟨hb, 0, none⟩ = some (.slice (some ⟨g, 0, none⟩) (xs.length + 1) cap) := (blk_cell H.hdr 0).trans rfl
  obtain ⟨ad, e0, hx0, hx1⟩ := at_T71 H.reads 0 (by decide) (by simp)
  injection e0 with e0
  subst e0
  have cx0 : w.cell? ⟨g, 0, none⟩ = some (.int .i64 x.f0) := hx0
  have cx1 : w.cell? ⟨g, 1, none⟩ = some (.int .i64 x.f1) := hx1
  have HB := Aside0.mk (Below.refl w.heap.size w)
  have hlen : ((0 : Nat) : Int) < ((xs.length + 1 : Nat) : Int) := by omega
  have hlen0 : ¬ ((xs.length : Int) + 1) = 0 := by omega
  clear H hx0 hx1
  go_enter Try.func69, Try.ntmps69
  go_wp2_with (first
    | ((with_reducible refine gate_dst (N := 2) rfl ?_); go_loud (refine box1 2 rfl rfl rfl info71 ?_); intro gb w2 hg hblk hbw hs; have HK := Aside0.mk hblk; have HGE := Aside0.mk (Nat.le_of_eq hg.symm); have HB2 := Aside0.mk hbw; have h02 := pw_cell_below hbw h0; have cx02 := pw_cell_below hbw cx0; have cx12 := pw_cell_below hbw cx1; clear hg hblk hbw hs h0 cx0 cx1 HB)
    | ((with_reducible refine gate_store (t := 71) (p := 2) rfl ?_); go_loud (refine store_part 2 rfl rfl rfl rfl gb 0 _ #[.int .i64 x.f0, .int .i64 x.f1] #[.int .i64 x.f0, .int .i64 x.f1] HK.out rfl (by first | rfl | (go_simp; rfl)) info71 rfl (by simp) (by simp [Value.oneCell']) (by simp) ?_); intro w9 hblk9 hg9 hs9; have HBz := Aside0.mk (below_grown_one HB2.out hg9 HGE.out); have HKz := Aside0.mk hblk9; clear hblk9 hg9 hs9))
  refine bodyPost_ret (results_ct rfl _ _ gb 71 #[.int .i64 x.f0, .int .i64 x.f1] (0, 0) _ rfl HKz.out Try.underlying71 rfl (by kernel_rfl)) rfl ?_
  exact ⟨rfl, HBz.out⟩
theorem idx0 (p q : Int) (w : World) : (Instr.index 129 (.agg #[.int .i64 p, .int .i64 q]) (.int .i64 0)).run Try.prog w = .ok (.int .i64 p) w := by
  simp [Instr.index, run_underlying Try.underlying129, asIntOf, go_sem, Try.sizeOf3, Try.isAgg3]
theorem idx1 (p q : Int) (w : World) : (Instr.index 129 (.agg #[.int .i64 p, .int .i64 q]) (.int .i64 1)).run Try.prog w = .ok (.int .i64 q) w := by
  simp [Instr.index, run_underlying Try.underlying129, asIntOf, go_sem, Try.sizeOf3, Try.isAgg3]
attribute [local go_sem] idx0 idx1
def pickL (xs : List S71) (m b : Nat) : Nat := if b < xs.length ∧ Ahead (xs.getD b z71) (xs.getD m z71) then b else m
def leastL (xs : List S71) (k : Nat) : Nat := pickL xs (pickL xs k (2 * k + 1)) (2 * k + 2)
def downL : Nat → List S71 → Nat → List S71
  | 0, xs, _ => xs
  | n + 1, xs, k => if leastL xs k = k then xs else downL n (swapL xs k (leastL xs k)) (leastL xs k)
theorem pickL_lt {xs : List S71} {m b : Nat} (h : m < xs.length) : pickL xs m b < xs.length := by
  unfold pickL
  split
  · rename_i hc; exact hc.1
  · exact h
theorem leastL_gt {xs : List S71} {k : Nat} (h : leastL xs k ≠ k) : k < leastL xs k ∧ leastL xs k < xs.length := by
  have h1 : pickL xs k (2 * k + 1) = k ∨ (pickL xs k (2 * k + 1) = 2 * k + 1 ∧ 2 * k + 1 < xs.length) := by
    unfold pickL
    split
    · rename_i hc; exact .inr ⟨rfl, hc.1⟩
    · exact .inl rfl
  have h2 : leastL xs k = pickL xs k (2 * k + 1) ∨ (leastL xs k = 2 * k + 2 ∧ 2 * k + 2 < xs.length) := by
    unfold leastL
    generalize pickL xs k (2 * k + 1) = m
    unfold pickL
    split
    · rename_i hc; exact .inr ⟨rfl, hc.1⟩
    · exact .inl rfl
  omega
theorem ahead_callsI {w : World} {base hb g cap : Nat} {xs : List S71} (H : HeapW w base hb g cap xs) (i k : Nat) (I K : Int) (hI : I = (i : Int)) (hK : K = (k : Int)) (hi : i < xs.length) (hk : k < xs.length) (r : Bool) (hr : decide (Ahead (xs.getD i z71) (xs.getD k z71)) = r) :
    Calls Try.prog 74 #[.pointer (some ⟨hb, 0, none⟩), .int .i64 I, .int .i64 K] w fun e w' => e = .returned (.bool r) ∧ Below w.heap.size w w' := by
  subst hI hK
  have := ahead_calls hb _ cap xs i k w H.hdr H.reads hi hk
  rw [List.getD_eq_getElem?_getD, List.getD_eq_getElem?_getD, List.getElem?_eq_getElem hi, List.getElem?_eq_getElem hk] at hr
  rw [← hr]
  exact this
theorem swap_callsI {w : World} {base hb g cap : Nat} {xs : List S71} (H : HeapW w base hb g cap xs) (i k : Nat) (I K : Int) (hI : I = (i : Int)) (hK : K = (k : Int)) (hi : i < xs.length) (hk : k < xs.length) :
    Calls Try.prog 70 #[.pointer (some ⟨hb, 0, none⟩), .int .i64 I, .int .i64 K] w fun e w' => e = .returned (.tuple #[]) ∧ HeapW w' base hb g cap (swapL xs i k) ∧ w.grownBy w' (some g) := by
  subst hI hK
  refine (swap_calls hb g cap xs i k w H.hdr base _ H.row hi hk).mono ?_
  rintro e w' ⟨he, hr, hg⟩
  refine ⟨he, ⟨?_, ?_⟩, hg⟩
  · rw [swapL_length]
    exact blk_grown H.hdr hg (fun e => by injection e with e; exact H.ne e)
  · rw [swapL_length]
    exact hr
set_option maxHeartbeats 8000000 in
set_option maxRecDepth 100000 in
theorem down_calls (n : Nat) : ∀ (hb g cap : Nat) (xs : List S71) (k : Nat) (w : World) (base : Nat) (H : HeapW w base hb g cap xs) (hk : k < xs.length ∨ (k = 0 ∧ xs.length = 0)) (hn : xs.length - k < n) (hl : xs.length ≤ 100000000000000),
    Calls Try.prog 71 #[.pointer (some ⟨hb, 0, none⟩), .int .i64 (k : Int)] w fun e w' => e = .returned (.tuple #[]) ∧ HeapW w' base hb g cap (downL n xs k) ∧ w.grownBy w' (some g) := by
  induction n with
  | zero => intro hb g cap xs k w base H hk hn hl; omega
  | succ n ih =>
    intro hb g cap xs k w base H hk hn hl
    have hkl : (k : Int) ≤ 100000000000000 := by omega
    have hk0 : 0 ≤ (k : Int) := by omega
    have HH := Aside0.mk H
    have HG := Aside0.mk (grown_of_below (Below.refl w.heap.size w) (some g))
    clear H
    go_enter Try.func71, Try.ntmps71
    go_wp2
    go_loopg [4, 6, 15] 2 (fun kq v4 _ v15 w' => ∃ (m i : Nat), v4 = .int .i64 (m : Int) ∧ v15 = .int .i64 (i : Int) ∧ Aside0 (i + kq = 2) ∧ Aside0 (m = if kq = 2 then k else if kq = 1 then pickL xs k (2 * k + 1) else leastL xs k) ∧ Aside0 (HeapW w' base hb g cap xs) ∧ Aside0 (w.grownBy w' (some g)))
    case atStart => exact ⟨k, 0, rfl, rfl, ⟨rfl⟩, ⟨rfl⟩, HH, HG⟩
    case round =>
      clear HH HG
      obtain ⟨m, i, rfl, rfl, HI, HM, HH, HG⟩ := hrel
      match gk with
      | 0 =>
        have hi : i = 2 := by have := HI.out; omega
        subst hi
        have hm : m = leastL xs k := HM.out
        subst hm
        by_cases hlk : leastL xs k = k
        · have hd : downL (n + 1) xs k = xs := if_pos hlk
          have hli : (leastL xs k : Int) = (k : Int) := by omega
          have HD := Aside0.mk hd
          rw [hli]
          clear hd HM hli
          go_wp2
          go_end0
          exact ⟨rfl, by rw [HD.out]; exact HH.out, HG.out⟩
        · have hd : downL (n + 1) xs k = downL n (swapL xs k (leastL xs k)) (leastL xs k) := if_neg hlk
          have hlt := leastL_gt hlk
          have hne : ¬ (leastL xs k : Int) = (k : Int) := by omega
          obtain ⟨m, hm⟩ : ∃ m, m = leastL xs k := ⟨_, rfl⟩
          rw [← hm] at hd hlt hne ⊢
          have HD := Aside0.mk hd
          have HK := Aside0.mk (show k < xs.length by omega)
          have HIH := Aside0.mk ih
          clear hd HM ih hlk hm
          go_wp2_with (first
            | (go_at_call 70; go_loud (refine (swap_callsI HH.out k m _ _ rfl rfl HK.out hlt.2).mono ?_); rintro e w6 ⟨rfl, hh, hg⟩; have HH6 := Aside0.mk hh; have HG6 := Aside0.mk (HG.out.trans hg); clear hh hg HH HG)
            | (go_at_call 71; go_loud (refine (HIH.out hb g cap (swapL xs k m) m _ base HH6.out (Or.inl (by rw [swapL_length]; exact hlt.2)) (by rw [swapL_length]; omega) (by rw [swapL_length]; exact hl)).mono ?_); rintro e w7 ⟨rfl, hh, hg⟩; have HH7 := Aside0.mk hh; have HG7 := Aside0.mk (HG6.out.trans hg); clear hh hg HH6 HG6))
          go_end0
          exact ⟨rfl, by rw [HD.out]; exact HH7.out, HG7.out⟩
      | 1 =>
        have hi : i = 1 := by have := HI.out; omega
        subst hi
        have hm : m = pickL xs k (2 * k + 1) := HM.out
        have HML := Aside0.mk (show 2 * k + 2 < xs.length → m < xs.length from fun q => by rw [hm]; exact pickL_lt (by omega))
        have HMM := Aside0.mk hm
        clear hm
        have h0 := (blk_cell HH.out.hdr 0).trans rfl
        by_cases hc : 2 * k + 2 < xs.length
        · have hci : 2 * (k : Int) + 2 < (xs.length : Int) := by omega
          by_cases hA : Ahead (xs.getD (2 * k + 2) z71) (xs.getD m z71)
          · have HA := Aside0.mk (decide_eq_true hA)
            have HP := Aside0.mk (show leastL xs k = 2 * k + 2 from by unfold leastL; rw [← HMM.out]; exact if_pos ⟨hc, hA⟩)
            clear hA
            go_wp2_with (first
              | (go_at_call 74; go_loud (refine (ahead_callsI HH.out (2 * k + 2) m _ _ (by first | rfl | (push_cast; rfl) | omega) rfl hc (HML.out hc) true HA.out).mono ?_); rintro e w6 ⟨rfl, hbw⟩; have HH6 := Aside0.mk (HH.out.below hbw); have HG6 := Aside0.mk (HG.out.trans (grown_of_below hbw _)); clear hbw HH HG))
            go_roundg 0
            case measure => omega
            case rel => exact ⟨2 * k + 2, 2, by first | rfl | (simp; done) | (go_num; done) | (push_cast; rfl), by first | rfl | (simp; done) | (go_num; done), ⟨rfl⟩, ⟨HP.out.symm⟩, HH6, HG6⟩
          · have HA := Aside0.mk (decide_eq_false hA)
            have HP := Aside0.mk (show leastL xs k = m from by unfold leastL; rw [← HMM.out]; exact if_neg (fun q => hA q.2))
            clear hA
            go_wp2_with (first
              | (go_at_call 74; go_loud (refine (ahead_callsI HH.out (2 * k + 2) m _ _ (by first | rfl | (push_cast; rfl) | omega) rfl hc (HML.out hc) false HA.out).mono ?_); rintro e w6 ⟨rfl, hbw⟩; have HH6 := Aside0.mk (HH.out.below hbw); have HG6 := Aside0.mk (HG.out.trans (grown_of_below hbw _)); clear hbw HH HG))
            go_roundg 0
            case measure => omega
            case rel => exact ⟨m, 2, rfl, by first | rfl | (simp; done) | (go_num; done), ⟨rfl⟩, ⟨HP.out.symm⟩, HH6, HG6⟩
        · have hci : ¬ 2 * (k : Int) + 2 < (xs.length : Int) := by omega
          have HP := Aside0.mk (show leastL xs k = m from by unfold leastL; rw [← HMM.out]; exact if_neg (fun q => hc q.1))
          go_wp2
          go_roundg 0
          case measure => omega
          case rel => exact ⟨m, 2, rfl, by first | rfl | (simp; done) | (go_num; done), ⟨rfl⟩, ⟨HP.out.symm⟩, HH, HG⟩
      | 2 =>
        have hi : i = 0 := by have := HI.out; omega
        subst hi
        have hm : m = k := HM.out
        rw [hm]
        clear HM hm
        have h0 := (blk_cell HH.out.hdr 0).trans rfl
        by_cases hc : 2 * k + 1 < xs.length
        · have hci : 2 * (k : Int) + 1 < (xs.length : Int) := by omega
          by_cases hA : Ahead (xs.getD (2 * k + 1) z71) (xs.getD k z71)
          · have HA := Aside0.mk (decide_eq_true hA)
            have HP := Aside0.mk (show pickL xs k (2 * k + 1) = 2 * k + 1 from if_pos ⟨hc, hA⟩)
            clear hA
            go_wp2_with (first
              | (go_at_call 74; go_loud (refine (ahead_callsI HH.out (2 * k + 1) k _ _ (by first | rfl | (push_cast; rfl) | omega) rfl hc (by omega) true HA.out).mono ?_); rintro e w6 ⟨rfl, hbw⟩; have HH6 := Aside0.mk (HH.out.below hbw); have HG6 := Aside0.mk (HG.out.trans (grown_of_below hbw _)); clear hbw HH HG))
            go_roundg 1
            case measure => omega
            case rel => exact ⟨2 * k + 1, 1, by first | rfl | (simp; done) | (go_num; done) | (push_cast; rfl), by first | rfl | (simp; done) | (go_num; done), ⟨rfl⟩, ⟨HP.out.symm⟩, HH6, HG6⟩
          · have HA := Aside0.mk (decide_eq_false hA)
            have HP := Aside0.mk (show pickL xs k (2 * k + 1) = k from if_neg (fun q => hA q.2))
            clear hA
            go_wp2_with (first
              | (go_at_call 74; go_loud (refine (ahead_callsI HH.out (2 * k + 1) k _ _ (by first | rfl | (push_cast; rfl) | omega) rfl hc (by omega) false HA.out).mono ?_); rintro e w6 ⟨rfl, hbw⟩; have HH6 := Aside0.mk (HH.out.below hbw); have HG6 := Aside0.mk (HG.out.trans (grown_of_below hbw _)); clear hbw HH HG))
            go_roundg 1
            case measure => omega
            case rel => exact ⟨k, 1, rfl, by first | rfl | (simp; done) | (go_num; done), ⟨rfl⟩, ⟨HP.out.symm⟩, HH6, HG6⟩
        · have hci : ¬ 2 * (k : Int) + 1 < (xs.length : Int) := by omega
          have HP := Aside0.mk (show pickL xs k (2 * k + 1) = k from if_neg (fun q => hc q.1))
          go_wp2
          go_roundg 1
          case measure => omega
          case rel => exact ⟨k, 1, rfl, by first | rfl | (simp; done) | (go_num; done), ⟨rfl⟩, ⟨HP.out.symm⟩, HH, HG⟩
      | kq + 3 => have := HI.out; omega
end Go.Proofs.Ytijflnpgiegajaa.Q
end
section
namespace Go.Proofs.Ytijflnpgiegajaa.Q
open Go.RowKit Go.Sort Go.Proofs.YtijflnpgiegajaaW.PrintWords Go.Proofs.YtijflnpgiegajaaW.PrintLast Go.Proofs.YtijflnpgiegajaaW.PrintMore Go.Proofs.Ytijflnpgiegajaa.IM Go.Proofs.Ytijflnpgiegajaa.Ev
set_option linter.unusedVariables false
set_option linter.unusedSimpArgs false
theorem R_prefix {W : World} {base : Nat} {ok : Nat → Prop} {g cap : Nat} {xs : List S71} {n : Nat} (h : Kd.R k71 71 W base ok (.slice (some ⟨g, 0, none⟩) xs.length cap) xs) (hn : n ≤ xs.length) :
    Kd.R k71 71 W base ok (.slice (some ⟨g, 0, none⟩) n cap) (xs.take n) := by
  obtain ⟨h0, inner, ho, hr⟩ := h
  have hl : (xs.take n).length = n := by simp; omega
  rcases ho.2 with ⟨hv, _⟩ | ⟨b', cap', cur, he, hb, hh, h1, h2, h3, h4⟩
  · injection hv with hv
    exact absurd hv (by simp)
  injection he with he _ he2
  injection he with he
  injection he with he
  subst he he2
  have h4' : cur.toList.take (xs.length * 2) = inner := h4
  have h3' : cur.size = cap * 2 := h3
  refine ⟨h0, inner.take (n * 2), ⟨?_, .inr ⟨g, cap, cur, by rw [hl], hb, hh, by rw [hl]; omega, h2, h3, ?_⟩⟩, ?_, ?_⟩
  · rw [hl, ← h4']
    show _ = n * 2
    simp
    omega
  · rw [hl, ← h4']
    show cur.toList.take (n * 2) = _
    rw [List.take_take, Nat.min_eq_left (by omega)]
  · rw [hl, ← h4']
    show _ = n * 2
    simp
    omega
  · intro j p hj
    have hjn : j < n := by
      have := (List.getElem?_eq_some_iff.1 hj).1
      omega
    rw [List.getElem?_take_of_lt hjn] at hj
    have := hr.2 j p hj
    have e : ((inner.take (n * 2)).drop (j * k71.sz)).take k71.sz = (inner.drop (j * k71.sz)).take k71.sz := by
      show ((inner.take (n * 2)).drop (j * 2)).take 2 = (inner.drop (j * 2)).take 2
      rw [List.drop_take, List.take_take, Nat.min_eq_left (by omega)]
    rw [e]
    exact this
structure Kp (w w' : World) (b1 b2 : Nat) : Prop where
  os : w'.os = w.os
  tape : w'.tape = w.tape
  output : w'.output = w.output
  size : w.heap.size ≤ w'.heap.size
  block : ∀ k, k < w.heap.size → k ≠ b1 → k ≠ b2 → w'.heap[k]? = w.heap[k]?
theorem Kp.refl (w : World) (b1 b2 : Nat) : Kp w w b1 b2 := ⟨rfl, rfl, rfl, Nat.le_refl _, fun _ _ _ _ => rfl⟩
theorem Kp.below {w w1 w2 : World} {b1 b2 : Nat} (h : Kp w w1 b1 b2) (hb : Below w1.heap.size w1 w2) : Kp w w2 b1 b2 :=
  ⟨hb.os.trans h.os, hb.tape.trans h.tape, hb.output.trans h.output, Nat.le_trans h.size hb.size, fun k hk h1 h2 => (hb.block k (Nat.lt_of_lt_of_le hk h.size)).trans (h.block k hk h1 h2)⟩
theorem Kp.grown1 {w w1 w2 : World} {b1 b2 : Nat} (h : Kp w w1 b1 b2) (hb : w1.grownBy w2 (some b1)) : Kp w w2 b1 b2 :=
  ⟨hb.os.trans h.os, hb.tape.trans h.tape, hb.output.trans h.output, Nat.le_trans h.size hb.size, fun k hk h1 h2 => (hb.block k (Nat.lt_of_lt_of_le hk h.size) (fun e => by injection e with e; exact h1 e)).trans (h.block k hk h1 h2)⟩
theorem Kp.grown2 {w w1 w2 : World} {b1 b2 : Nat} (h : Kp w w1 b1 b2) (hb : w1.grownBy w2 (some b2)) : Kp w w2 b1 b2 :=
  ⟨hb.os.trans h.os, hb.tape.trans h.tape, hb.output.trans h.output, Nat.le_trans h.size hb.size, fun k hk h1 h2 => (hb.block k (Nat.lt_of_lt_of_le hk h.size) (fun e => by injection e with e; exact h2 e)).trans (h.block k hk h1 h2)⟩
theorem Kp.fresh {w w1 w2 : World} {b1 b2 g : Nat} (h : Kp w w1 b1 b2) (hb : w1.grownBy w2 (some g)) (hg : w.heap.size ≤ g) : Kp w w2 b1 b2 :=
  ⟨hb.os.trans h.os, hb.tape.trans h.tape, hb.output.trans h.output, Nat.le_trans h.size hb.size, fun k hk h1 h2 => (hb.block k (Nat.lt_of_lt_of_le hk h.size) (fun e => by injection e with e; omega)).trans (h.block k hk h1 h2)⟩
theorem HeapW.other {w w' : World} {base hb g cap gb : Nat} {xs : List S71} (h : HeapW w base hb g cap xs) (hg : w.grownBy w' (some gb)) (h1 : hb ≠ gb) (h2 : g ≠ gb) : HeapW w' base hb g cap xs :=
  ⟨blk_grown h.hdr hg (fun e => by injection e with e; exact h1 e), Kd.R_grown2 h.row rfl hg (fun k hk e => by
    injection hk with hk
    rw [← hk] at e
    injection e with e
    exact h2 e.symm)⟩
theorem HeapW.lt {w : World} {base hb g cap : Nat} {xs : List S71} (h : HeapW w base hb g cap xs) : hb < w.heap.size ∧ g < w.heap.size :=
  ⟨(Array.getElem?_eq_some_iff.1 h.hdr).1, Kd.R_lt h.row g rfl⟩
def popL (xs : List S71) : List S71 := downL (xs.length) ((swapL xs 0 (xs.length - 1)).take (xs.length - 1)) 0
theorem info38 : (Try.prog.info? 38).map (fun i => (i.zero, i.size, i.bytes)) = some (some (.slice none 0 0), 1, 24) := by kernel_rfl
theorem HeapW.cut {w w' : World} {base hb g cap n : Nat} {xs : List S71} (h : HeapW w base hb g cap xs) (hn : n ≤ xs.length) (hg : w.grownBy w' (some hb)) (hh : w'.heap[hb]? = some (.cells #[.slice (some ⟨g, 0, none⟩) n cap] 110 (0, 0))) : HeapW w' base hb g cap (xs.take n) := by
  have hl : (xs.take n).length = n := by simp; omega
  refine ⟨by rw [hl]; exact hh, ?_⟩
  rw [hl]
  exact R_store (R_prefix h.row hn) h.hdr (fun q hq => (List.mem_cons.1 hq).elim (fun e => by rw [e]; decide) (fun e => nomatch e)) hg
set_option maxHeartbeats 8000000 in
set_option maxRecDepth 100000 in
theorem pop_calls {w : World} {base hb g cap : Nat} {x : S71} {xs : List S71} (H : HeapW w base hb g cap (x :: xs)) (hl : (x :: xs).length ≤ 100000000000000) :
    Calls Try.prog 44 #[.pointer (some ⟨hb, 0, none⟩)] w fun e w' => e = .returned (.tuple #[.agg #[.int .i64 x.f0, .int .i64 x.f1], .bool true]) ∧ HeapW w' base hb g cap (popL (x :: xs)) ∧ Kp w w' hb g := by
  have hcap : xs.length + 1 ≤ cap := by
    obtain ⟨A, c, he, hle, _⟩ := Kd.R_reads H.row
    injection he with _ _ he
    subst he
    simpa using hle
  have hlt := H.lt
  have HLT := Aside0.mk hlt
  have HNE := Aside0.mk H.ne
  have HK0 := Aside0.mk (Kp.refl w hb g)
  have HTK := Aside0.mk (show ((swapL (x :: xs) 0 xs.length).take xs.length).length = xs.length by simp)
  have HH := Aside0.mk H
  have hl2 : xs.length ≤ 100000000000000 := by simp at hl; omega
  have hc1 : (0 : Int) ≤ (xs.length : Int) := by omega
  have hc2 : (xs.length : Int) ≤ (cap : Int) := by omega
  clear H hlt hl
  go_enter Try.func44, Try.ntmps44
  go_wp2_with (first
    | ((with_reducible refine gate_dst (N := 2) rfl ?_); go_loud (refine box1 2 rfl rfl rfl info71 ?_); intro gb w2 hg hblk hbw hs; have HK2 := Aside0.mk hblk; have HGE2 := Aside0.mk (Nat.le_of_eq hg.symm); have HH2 := Aside0.mk (HH.out.below hbw); have HP2 := Aside0.mk (HK0.out.below hbw); clear hg hblk hbw hs HH HK0)
    | (go_at_call 69; go_loud (refine (peek_calls HH2.out).mono ?_); rintro e w3 ⟨rfl, hbw⟩; have HK3 := Aside0.mk (blk_below HK2.out hbw); have HH3 := Aside0.mk (HH2.out.below hbw); have HP3 := Aside0.mk (HP2.out.below hbw); clear hbw HH2 HK2 HP2)
    | ((with_reducible refine gate_dst (N := 4) rfl ?_); go_loud (refine box2 4 rfl rfl rfl rfl rfl rfl #[.int .i64 x.f0, .int .i64 x.f1] info71 rfl rfl (by simp [Value.oneCell']) (by first | (go_simp; done) | (go_simp; rfl)) (by first | (go_simp; done) | (go_simp; rfl)) ?_); intro gx w4 hg hblk hbw hs; have HX4 := Aside0.mk hblk; have HGX := Aside0.mk (show w.heap.size ≤ gx by rw [hg]; exact HP3.out.size); have HXB := Aside0.mk (show gb ≠ gx from fun e => by have := (Array.getElem?_eq_some_iff.1 HK3.out).1; omega); have HK4 := Aside0.mk (blk_below HK3.out hbw); have HH4 := Aside0.mk (HH3.out.below hbw); have HP4 := Aside0.mk (HP3.out.below hbw); have h04 := (blk_cell HH4.out.hdr 0).trans rfl; clear hg hblk hbw hs HH3 HK3 HP3)
    | (go_at_call 70; go_loud (refine (swap_callsI HH4.out 0 xs.length _ _ rfl rfl (by simp) (by simp)).mono ?_); rintro e w5 ⟨rfl, hh, hg⟩; have HK5 := Aside0.mk (blk_grown HK4.out hg (fun e => by injection e with e; have := HLT.out.2; have := HGE2.out; omega)); have HX5 := Aside0.mk (blk_grown HX4.out hg (fun e => by injection e with e; have := HLT.out.2; have := HGX.out; omega)); have HH5 := Aside0.mk hh; have HP5 := Aside0.mk (HP4.out.grown2 hg); have h05 : w5.cell? ⟨hb, 0, none⟩ = some (.slice (some ⟨g, 0, none⟩) (xs.length + 1) cap) := (blk_cell hh.hdr 0).trans (by rw [swapL_length]; rfl); clear hh hg HH4 HK4 HX4 HP4 h04)
    | ((with_reducible refine gate_store (t := 38) (p := 32) rfl ?_); go_loud (refine store_part 32 rfl rfl rfl rfl hb 0 _ #[.slice (some ⟨g, 0, none⟩) xs.length cap] #[.slice (some ⟨g, 0, none⟩) xs.length cap] HH5.out.hdr rfl (by first | rfl | (go_simp; rfl)) info38 rfl (by simp) (by simp [Value.oneCell']) (by simp) ?_); intro w6 hblk6 hg6 hs6; have HH6 := Aside0.mk (HH5.out.cut (n := xs.length) (by rw [swapL_length]; simp) hg6 hblk6); have HK6 := Aside0.mk (blk_grown HK5.out hg6 (fun e => by injection e with e; have := HLT.out.1; have := HGE2.out; omega)); have HX6 := Aside0.mk (blk_grown HX5.out hg6 (fun e => by injection e with e; have := HLT.out.1; have := HGX.out; omega)); have HP6 := Aside0.mk (HP5.out.grown1 hg6); clear hblk6 hg6 hs6 HH5 HK5 HX5 HP5 h05)
    | (go_at_call 71; go_loud (refine (down_calls (xs.length + 1) hb g cap ((swapL (x :: xs) 0 xs.length).take xs.length) 0 _ base HH6.out (by rw [HTK.out]; omega) (by rw [HTK.out]; omega) (by rw [HTK.out]; exact hl2)).mono ?_); rintro e w7 ⟨rfl, hh, hg⟩; have HK7 := Aside0.mk (blk_grown HK6.out hg (fun e => by injection e with e; have := HLT.out.2; have := HGE2.out; omega)); have HX7 := Aside0.mk (blk_grown HX6.out hg (fun e => by injection e with e; have := HLT.out.2; have := HGX.out; omega)); have HH7 := Aside0.mk hh; have HP7 := Aside0.mk (HP6.out.grown2 hg); have x0 := (blk_cell HX7.out 0).trans rfl; have x1 := (blk_cell HX7.out 1).trans rfl; clear hh hg HH6 HK6 HX6 HP6)
    | ((with_reducible refine gate_store (t := 71) (p := 2) rfl ?_); go_loud (refine store_part 2 rfl rfl rfl rfl gb 0 _ #[.int .i64 x.f0, .int .i64 x.f1] #[.int .i64 x.f0, .int .i64 x.f1] HK7.out rfl (by first | rfl | (go_simp; rfl)) info71 rfl (by simp) (by simp [Value.oneCell']) (by simp) ?_); intro w9 hblk9 hg9 hs9; have HP9 := Aside0.mk (HP7.out.fresh hg9 HGE2.out); have HK9 := Aside0.mk hblk9; have HH9 := Aside0.mk (HH7.out.other hg9 (by have := HLT.out.1; have := HGE2.out; omega) (by have := HLT.out.2; have := HGE2.out; omega)); clear hblk9 hg9 hs9))
  refine bodyPost_ret (results_ct rfl _ _ gb 71 #[.int .i64 x.f0, .int .i64 x.f1] (0, 0) _ rfl HK9.out Try.underlying71 rfl (by kernel_rfl)) rfl ?_
  exact ⟨rfl, HH9.out, HP9.out⟩
end Go.Proofs.Ytijflnpgiegajaa.Q
end
section
namespace Go.Proofs.Ytijflnpgiegajaa.Q
open Go.RowKit Go.Sort Go.Proofs.YtijflnpgiegajaaW.PrintWords Go.Proofs.YtijflnpgiegajaaW.PrintLast Go.Proofs.YtijflnpgiegajaaW.PrintMore Go.Proofs.Ytijflnpgiegajaa.IM Go.Proofs.Ytijflnpgiegajaa.Ev
set_option linter.unusedVariables false
set_option linter.unusedSimpArgs false
def upL : Nat → List S71 → Nat → List S71
  | 0, xs, _ => xs
  | n + 1, xs, k => if 0 < k ∧ Ahead (xs.getD k z71) (xs.getD ((k - 1) / 2) z71) then upL n (swapL xs k ((k - 1) / 2)) ((k - 1) / 2) else xs
def pushL (xs : List S71) (x : S71) : List S71 := upL (xs.length + 1) (xs ++ [x]) xs.length
structure HeapV (w : World) (base : Nat) (hb : Nat) (v : Value) (xs : List S71) : Prop where
  hdr : w.heap[hb]? = some (.cells #[v] 110 (0, 0))
  row : Kd.R k71 71 w base (fun _ => True) v xs
theorem HeapW.v {w : World} {base hb g cap : Nat} {xs : List S71} (h : HeapW w base hb g cap xs) : HeapV w base hb (.slice (some ⟨g, 0, none⟩) xs.length cap) xs := ⟨h.hdr, h.row⟩
def intOf4 : Value → Int
  | .int _ q => q
  | _ => 0
theorem scope_jumps2 {P : Program} {a : Act} {w : World} {Q : Exit → Act → World → Prop} {c rest : Code} (l : Nat) (J : Act → World → Prop) (μ : Act → World → Nat) (hf : findLabel c l = some (Code.skip.seq rest))
    (first : Aside0 (∀ a w, J a w → rest.wp P (Exit.jump l J Q) a w) → c.wp P (Exit.jump l J Q) a w)
    (pass : ∀ a w, J a w → ∀ Qj : Exit → Act → World → Prop, Aside0 (∀ a' w', J a' w' → μ a' w' < μ a w → Qj (.goto l) a' w') → Aside0 (∀ a' w', Q .normal a' w' → Qj .normal a' w') → rest.wp P Qj a w) : (Code.scope c).wp P Q a w := by
  have hp : ∀ a w, J a w → rest.wp P (Exit.jump l (fun a' w' => J a' w' ∧ μ a' w' < μ a w) Q) a w := fun a w hJ =>
    pass a w hJ _ ⟨fun a' w' h1 h2 => ⟨rfl, h1, h2⟩⟩ ⟨fun a' w' h => h⟩
  exact wp_scope_jumps l J μ hf (first ⟨fun a w hJ => Code.wp_mono (fun e a' w' h => by
    cases e <;> first | exact h | exact ⟨h.1, h.2.1⟩) (hp a w hJ)⟩) (fun a w hJ => wp_seq (wp_skip (hp a w hJ)))
structure KpO (w w' : World) (b1 : Nat) (b2 : Option Nat) : Prop where
  os : w'.os = w.os
  tape : w'.tape = w.tape
  output : w'.output = w.output
  size : w.heap.size ≤ w'.heap.size
  block : ∀ k, k < w.heap.size → k ≠ b1 → some k ≠ b2 → w'.heap[k]? = w.heap[k]?
theorem KpO.refl (w : World) (b1 : Nat) (b2 : Option Nat) : KpO w w b1 b2 := ⟨rfl, rfl, rfl, Nat.le_refl _, fun _ _ _ _ => rfl⟩
theorem KpO.below {w w1 w2 : World} {b1 : Nat} {b2 : Option Nat} (h : KpO w w1 b1 b2) (hb : Below w1.heap.size w1 w2) : KpO w w2 b1 b2 :=
  ⟨hb.os.trans h.os, hb.tape.trans h.tape, hb.output.trans h.output, Nat.le_trans h.size hb.size, fun k hk h1 h2 => (hb.block k (Nat.lt_of_lt_of_le hk h.size)).trans (h.block k hk h1 h2)⟩
theorem KpO.grown1 {w w1 w2 : World} {b1 : Nat} {b2 : Option Nat} (h : KpO w w1 b1 b2) (hb : w1.grownBy w2 (some b1)) : KpO w w2 b1 b2 :=
  ⟨hb.os.trans h.os, hb.tape.trans h.tape, hb.output.trans h.output, Nat.le_trans h.size hb.size, fun k hk h1 h2 => (hb.block k (Nat.lt_of_lt_of_le hk h.size) (fun e => by injection e with e; exact h1 e)).trans (h.block k hk h1 h2)⟩
theorem KpO.grown2 {w w1 w2 : World} {b1 : Nat} {b2 : Option Nat} (h : KpO w w1 b1 b2) (hb : w1.grownBy w2 b2) : KpO w w2 b1 b2 :=
  ⟨hb.os.trans h.os, hb.tape.trans h.tape, hb.output.trans h.output, Nat.le_trans h.size hb.size, fun k hk h1 h2 => (hb.block k (Nat.lt_of_lt_of_le hk h.size) h2).trans (h.block k hk h1 h2)⟩
theorem KpO.grownG {w w1 w2 : World} {b1 g : Nat} {b2 : Option Nat} (h : KpO w w1 b1 b2) (hb : w1.grownBy w2 (some g)) (hg : b2 = some g ∨ w.heap.size ≤ g) : KpO w w2 b1 b2 :=
  ⟨hb.os.trans h.os, hb.tape.trans h.tape, hb.output.trans h.output, Nat.le_trans h.size hb.size, fun k hk h1 h2 => (hb.block k (Nat.lt_of_lt_of_le hk h.size) (fun e => by
    injection e with e
    rcases hg with hg | hg
    · exact h2 (by rw [hg, e])
    · omega)).trans (h.block k hk h1 h2)⟩
theorem own_eq (A0 : Option Addr) (n c : Nat) : (Value.slice A0 n c).ownBlock = A0.map (·.block) := by cases A0 <;> rfl
theorem own_ok {A0 : Option Addr} {n c g N : Nat} (h : A0.map (·.block) = some g ∨ N ≤ g) : (Value.slice A0 n c).ownBlock = some g ∨ N ≤ g := by
  rcases h with h | h
  · left
    cases A0 with
    | none => simp at h
    | some a => simpa [Value.ownBlock] using h
  · exact .inr h
theorem own_ok2 {A0 : Option Addr} {n c g : Nat} (h : (Value.slice A0 n c).ownBlock = some g) : A0.map (·.block) = some g := by
  cases A0 with
  | none => simp [Value.ownBlock] at h
  | some a => simpa [Value.ownBlock] using h
theorem store_step {P : Program} {ops : Array Oper} {o : Oper} {a : Act} {Q : Exit → Act → World → Prop} {Kc : Act → World → Prop} {W : World} {x y : Operand} {t T : TypeId} (hw : Region.wanted o (yielded ops a.tmps) = true) (hd : o.dst = none) (ho : o.op = .store t x y) (g off : Nat) (cur cs new : Array Value) {z : Option Value} {n bytes : Nat}
    (hblk : W.heap[g]? = some (.cells cur T (0, 0))) (hx : a.eval x = .pointer (some ⟨g, off, none⟩)) (hy : (a.eval y).cells = cs) (hinfo : (P.info? t).map (fun i => (i.zero, i.size, i.bytes)) = some (z, n, bytes)) (hn : cs.size = n)
    (hfit : off + cs.toList.length ≤ cur.size) (hone : ∀ v ∈ cs.toList, v.oneCell' = true) (hnew : (cur.toList.take (off + 0) ++ cs.toList ++ cur.toList.drop (off + 0 + cs.toList.length)).toArray = new)
    (h : ∀ w1, w1.heap[g]? = some (.cells new T (0, 0)) → W.grownBy w1 (some g) → w1.heap.size = W.heap.size → Kc (a.put none undef) w1) :
    if Region.wanted o (yielded ops a.tmps) = true then Oper.wp P o a W Kc Q else Kc (a.put none undef) W := by
  rw [if_pos hw]
  have hrun := run_storeCells_at P g off T cs.toList 0 cur W hblk (by simpa using hfit) hone
  rw [hnew] at hrun
  have h1 : (execOp a.eval o).run P W = .ok .skip (W.setRow g new) := by
    cases hq : P.info? t with
    | none => simp [hq] at hinfo
    | some i =>
      have hs : i.size = cs.size := by simp [hq] at hinfo; omega
      simp [execOp, ho, hx, Instr.storeAt, Instr.sureAddr, storeVar, sizeOf, typeInfo, hq, hs, hy, hrun, Result.andThen]
  unfold Oper.wp
  rw [h1]
  show Kc (a.put o.dst undef) _
  rw [hd]
  have hg := setRow_grown W g new
  refine h _ ?_ hg.1 hg.2
  simp [World.setRow, Array.getElem?_modify, hblk]
set_option maxHeartbeats 8000000 in
set_option maxRecDepth 100000 in
theorem push_calls {w : World} {base hb : Nat} {v : Value} {xs : List S71} (x : S71) (H : HeapV w base hb v xs) (hbase : base ≤ w.heap.size) (hl : xs.length ≤ 1000000000000) :
    Calls Try.prog 47 #[.pointer (some ⟨hb, 0, none⟩), .agg #[.int .i64 x.f0, .int .i64 x.f1]] w fun e w' => e = .returned (.tuple #[]) ∧ ∃ g cap : Nat, HeapW w' base hb g cap (pushL xs x) ∧ KpO w w' hb v.ownBlock ∧ (v.ownBlock = some g ∨ w.heap.size ≤ g) := by
  have HV := Aside0.mk H.row
  have HD := Aside0.mk H.hdr
  obtain ⟨A0, c0, ev⟩ := Kd.R_slice H.row
  subst ev
  have h0 : w.cell? ⟨hb, 0, none⟩ = some (.slice A0 xs.length c0) := (blk_cell H.hdr 0).trans rfl
  clear H
  go_enter Try.func47, Try.ntmps47
  go_wp2
  have hgb : ∃ gb W, gb = w.heap.size ∧ W = w.alloc (.cells #[.int .i64 x.f0, .int .i64 x.f1] 71) := ⟨_, _, rfl, rfl⟩
  obtain ⟨gb, W, hgb, hW⟩ := hgb
  rw [← hW, ← hgb]
  have hbw : Below w.heap.size w W := by rw [hW]; exact below_alloc (Below.refl _ _) _
  have HX := Aside0.mk (show W.heap[gb]? = some (.cells #[.int .i64 x.f0, .int .i64 x.f1] 71 (0, 0)) by rw [hW, hgb]; exact blk_new w _)
  have h1 := pw_cell_below hbw h0
  have HV1 := Aside0.mk (Kd.R_below HV.out hbw)
  have HD1 := Aside0.mk (blk_below HD.out hbw)
  have HK1 := Aside0.mk hbw
  have HNG := Aside0.mk (R_new_ne HV.out hgb)
  have HNH := Aside0.mk (Kd.R_ne HV1.out HD1.out (by decide))
  have HBS := Aside0.mk (Nat.le_trans hbase hbw.size)
  have HLN := Aside0.mk (show (xs.length + 1) * 16 ≤ 140737488355328 by omega)
  clear hW hgb hbw h0 HV
  refine scope_jumps2 0 (fun a' w' => ∃ (k g cap n : Nat) (ys : List S71) (u5 u6 u7 u8 u9 u10 u11 u12 u13 u14 u15 u16 u17 u18 u19 u20 u21 u22 u23 u24 u25 u26 u27 u28 u29 u30 u31 u32 u33 u34 u35 u36 u37 : Value), a' = { tmps := #[.pointer (some ⟨hb, 0, none⟩), .agg #[.int .i64 x.f0, .int .i64 x.f1], undef, .pointer (some ⟨gb, 0, none⟩), .int .i64 (k : Int), u5, u6, u7, u8, u9, u10, u11, u12, u13, u14, u15, u16, u17, u18, u19, u20, u21, u22, u23, u24, u25, u26, u27, u28, u29, u30, u31, u32, u33, u34, u35, u36, u37], defers := [] } ∧ Aside0 (k < ys.length) ∧ Aside0 (ys.length = xs.length + 1) ∧ Aside0 (k < n) ∧ Aside0 (upL n ys k = pushL xs x) ∧ Aside0 (HeapW w' base hb g cap ys) ∧ Aside0 (KpO w w' hb (A0.map (·.block))) ∧ Aside0 (A0.map (·.block) = some g ∨ w.heap.size ≤ g)) (fun a' _ => (intOf4 (a'.tmps.getD 4 undef)).toNat) rfl ?_ ?_
  · intro hpass
    go_wp2
    refine start_ (n := 11) (S := fun w' => w'.cell? ⟨hb, 0, none⟩ = some (.slice A0 xs.length c0) ∧ w'.cell? ⟨gb, 0, none⟩ = some (.int .i64 x.f0) ∧ w'.cell? ⟨gb, 1, none⟩ = some (.int .i64 x.f1)) (ds := [10]) #[false, false, false, false, false, false, false, false, false, false, false] (by kernel_rfl) rfl rfl ⟨h1, (blk_cell HX.out 0).trans rfl, (blk_cell HX.out 1).trans rfl⟩ (fun hHeld => ?_)
    refine pure_ (i := 0) (N := (some 6)) (v := ?_) (a' := ?_) #[true, false, false, false, false, false, false, false, false, false, false] rfl rfl (by kernel_rfl) (fun _ _ _ h => h) (Or.inl ⟨by rfl, ?_⟩) ?_ ?_
    rotate_left
    · intro w'
      go_simp
      with_reducible rfl
    rotate_left
    · simp only [Act.put, List.setIfInBounds_toArray, List.set_cons_zero, List.set_cons_succ, i64_w, i32_w]
      rfl
    refine pure_ (i := 1) (N := (some 7)) (v := ?_) (a' := ?_) #[true, true, false, false, false, false, false, false, false, false, false] rfl rfl (by kernel_rfl) (fun _ _ _ h => h) (Or.inl ⟨by rfl, ?_⟩) ?_ ?_
    rotate_left
    · intro w'
      go_simp
      with_reducible rfl
    rotate_left
    · simp only [Act.put, List.setIfInBounds_toArray, List.set_cons_zero, List.set_cons_succ, i64_w, i32_w]
      rfl
    refine pure_ (i := 2) (N := (some 8)) (v := ?_) (a' := ?_) #[true, true, true, false, false, false, false, false, false, false, false] rfl rfl (by kernel_rfl) (fun _ _ _ h => h) (Or.inl ⟨by rfl, ?_⟩) ?_ ?_
    rotate_left
    · intro w'
      go_simp
      with_reducible rfl
    rotate_left
    · simp only [Act.put, List.setIfInBounds_toArray, List.set_cons_zero, List.set_cons_succ, i64_w, i32_w]
      rfl
    refine pure_ (i := 3) (N := (some 9)) (v := ?_) (a' := ?_) #[true, true, true, true, false, false, false, false, false, false, false] rfl rfl (by kernel_rfl) (fun _ _ _ h => h) (Or.inl ⟨by rfl, ?_⟩) ?_ ?_
    rotate_left
    · intro w'
      go_simp
      with_reducible rfl
    rotate_left
    · simp only [Act.put, List.setIfInBounds_toArray, List.set_cons_zero, List.set_cons_succ, i64_w, i32_w]
      rfl
    refine take_ (i := 4) (N := (some 10)) (v := ?_) (a' := ?_) #[true, true, true, true, true, false, false, false, false, false, false] rfl rfl (by kernel_rfl) (fun _ _ _ h => h) (Or.inl ⟨by rfl, ?_⟩) hHeld ?_ ?_
    rotate_left
    · rintro w' ⟨s0, s1, s2⟩
      go_simp
      with_reducible rfl
    rotate_left
    · simp only [Act.put, List.setIfInBounds_toArray, List.set_cons_zero, List.set_cons_succ, i64_w, i32_w]
      rfl
    refine take_ (i := 5) (N := (some 11)) (v := ?_) (a' := ?_) #[true, true, true, true, true, true, false, false, false, false, false] rfl rfl (by kernel_rfl) (fun _ _ _ h => h) (Or.inl ⟨by rfl, ?_⟩) hHeld ?_ ?_
    rotate_left
    · rintro w' ⟨s0, s1, s2⟩
      go_simp
      with_reducible rfl
    rotate_left
    · simp only [Act.put, List.setIfInBounds_toArray, List.set_cons_zero, List.set_cons_succ, i64_w, i32_w]
      rfl
    refine one_ (i := 6) (N := (some 12)) #[true, true, true, true, true, true, true, false, false, false, false] rfl rfl (by kernel_rfl) (by decide) (fun K hK => ?_)
    rw [if_pos (by rfl)]
    go_simp
    refine hK.out _ _ ⟨pw_cell_below (below_alloc (Below.refl _ _) _) hHeld.1, pw_cell_below (below_alloc (Below.refl _ _) _) hHeld.2.1, pw_cell_below (below_alloc (Below.refl _ _) _) hHeld.2.2⟩ (fun hHeld => ?_)
    clear hK K
    refine norm_ (a' := ?_) ?_ ?_
    rotate_left
    · first | (show Act.put _ (some 12) _ = _; simp only [Act.put, List.setIfInBounds_toArray, List.set_cons_zero, List.set_cons_succ, i64_w, i32_w]; rfl) | rfl
    refine one_ (i := 7) (N := (some 13)) #[true, true, true, true, true, true, true, true, false, false, false] rfl rfl (by kernel_rfl) (by decide) (fun K hK => ?_)
    rw [if_pos (by rfl)]
    refine append_any k71 (w0 := W.drew) (W := W.drew) base ?h1 (.tmp 10) (.tmp 12) 38 71 (.agg #[.int .i64 0, .int .i64 0]) 16 ?h2 Try.underlying38 info71 rfl (by decide) (by decide) (.slice A0 xs.length c0) xs x [.int .i64 x.f0, .int .i64 x.f1] (fun _ => True) (fun _ => False) ?h8 ?h9 (k71_mkM _ _ _ x) (fun _ hk => hk.elim) (fun _ _ => trivial) (Kd.R_drew HV1.out) (Below.refl _ _) HBS.out HLN.out ?h17 ?h18
    case h1 => rfl
    case h2 => rfl
    case h8 => rfl
    case h9 => rfl
    case h17 => rfl
    intro v3 w3 ho3 hb3 hg3 hat3
    have hd3 := blk_grown (blk_drew HD1.out) hg3 HNH.out
    have hx3 := blk_grown (blk_drew HX.out) hg3 HNG.out
    refine hK.out _ _ ⟨(blk_cell hd3 0).trans rfl, (blk_cell hx3 0).trans rfl, (blk_cell hx3 1).trans rfl⟩ (fun hHeld => ?_)
    obtain ⟨g3, cap3, cur3, ev3, _, hlt3, _, _, _⟩ := holds_R ho3 (by simp)
    subst ev3
    have HO3 := Aside0.mk ho3
    have HG3 := Aside0.mk hg3
    have HA3 := Aside0.mk hat3
    have HD3 := Aside0.mk hd3
    clear hb3 hd3 hx3 ho3 hg3 hat3 hlt3
    clear hK K
    refine norm_ (a' := ?_) ?_ ?_
    rotate_left
    · first | (show Act.put _ (some 13) _ = _; simp only [Act.put, List.setIfInBounds_toArray, List.set_cons_zero, List.set_cons_succ, i64_w, i32_w]; rfl) | rfl
    refine pure_ (i := 8) (N := (some 14)) (v := ?_) (a' := ?_) #[true, true, true, true, true, true, true, true, true, false, false] rfl rfl (by kernel_rfl) (fun _ _ _ h => h) (Or.inl ⟨by rfl, ?_⟩) ?_ ?_
    rotate_left
    · intro w'
      go_simp
      with_reducible rfl
    rotate_left
    · simp only [Act.put, List.setIfInBounds_toArray, List.set_cons_zero, List.set_cons_succ, i64_w, i32_w]
      rfl
    refine pure_ (i := 9) (N := (some 15)) (v := ?_) (a' := ?_) #[true, true, true, true, true, true, true, true, true, true, false] rfl rfl (by kernel_rfl) (fun _ _ _ h => h) (Or.inl ⟨by rfl, ?_⟩) ?_ ?_
    rotate_left
    · intro w'
      go_simp
      with_reducible rfl
    rotate_left
    · simp only [Act.put, List.setIfInBounds_toArray, List.set_cons_zero, List.set_cons_succ, i64_w, i32_w]
      rfl
    refine last_ (i := 10) (N := none) #[true, true, true, true, true, true, true, true, true, true, true] rfl rfl (by kernel_rfl) (by decide) (fun K hK => ?_)
    refine store_step (by rfl) rfl rfl hb 0 _ #[.slice (some ⟨g3, 0, none⟩) (xs ++ [x]).length cap3] #[.slice (some ⟨g3, 0, none⟩) (xs ++ [x]).length cap3] HD3.out (by rfl) (by rfl) info38 rfl (by simp) (by simp [Value.oneCell']) (by simp) ?_
    intro w4 hblk4 hg4 hs4
    refine hK.out _ _ ?_
    clear hK K
    refine norm_ (a' := ?_) ?_ ?_
    rotate_left
    · first | (show Act.put _ none _ = _; simp only [Act.put, List.setIfInBounds_toArray, List.set_cons_zero, List.set_cons_succ, i64_w, i32_w]; rfl) | rfl
    refine done_ (by kernel_rfl) ?_
    have HH4 := Aside0.mk (show HeapW w4 base hb g3 cap3 (xs ++ [x]) from ⟨hblk4, R_store HO3.out HD3.out (fun q hq => (List.mem_cons.1 hq).elim (fun e => by rw [e]; decide) (fun e => nomatch e)) hg4⟩)
    have hxl : (xs ++ [x]).length = xs.length + 1 := by simp
    have h4 : w4.cell? ⟨hb, 0, none⟩ = some (.slice (some ⟨g3, 0, none⟩) (xs.length + 1) cap3) := (blk_cell hblk4 0).trans (by rw [hxl]; rfl)
    have HK4 := Aside0.mk hg4
    clear hblk4 hg4 hs4 HO3 HD3
    go_wp2
    refine wp_label ?_
    rename_i hcont
    refine hcont _ _ (hpass.out _ _ ⟨xs.length, g3, cap3, xs.length + 1, xs ++ [x], _, _, _, _, _, _, _, _, _, _, _, _, _, _, _, _, _, _, _, _, _, _, _, _, _, _, _, _, _, _, _, _, _, rfl, ⟨by simp⟩, ⟨hxl⟩, ⟨by omega⟩, ⟨rfl⟩, HH4, ⟨?_⟩, ⟨?_⟩⟩)
    · have h1 : KpO w W hb (A0.map (·.block)) := (KpO.refl w hb _).below HK1.out
      have h2 : KpO w w3 hb (A0.map (·.block)) := by
        have := HG3.out
        rw [own_eq] at this
        have h1d : KpO w W.drew hb (A0.map (·.block)) := ⟨h1.os, h1.tape, h1.output, h1.size, h1.block⟩
        exact h1d.grown2 this
      exact h2.grown1 HK4.out
    · rcases HA3.out with h | ⟨b, h1, h2⟩
      · exact .inl (own_ok2 h.symm)
      · have e : g3 = b := by
          have : some g3 = some b := h1
          injection this
        right
        rw [e]
        exact Nat.le_trans HK1.out.size h2
  · intro a' w' hJ Qj HGO HNO
    obtain ⟨k, g, cap, n, ys, u5, u6, u7, u8, u9, u10, u11, u12, u13, u14, u15, u16, u17, u18, u19, u20, u21, u22, u23, u24, u25, u26, u27, u28, u29, u30, u31, u32, u33, u34, u35, u36, u37, rfl, HKL, HYL, HKN, HUP, HH, HP, HOW⟩ := hJ
    have hkl := HKL.out
    have hyl := HYL.out
    by_cases hk : k = 0
    · subst hk
      go_wp2
      refine HNO.out _ _ ?_
      go_end0
      obtain ⟨n, rfl⟩ : ∃ n', n = n' + 1 := ⟨n - 1, by have := HKN.out; omega⟩
      have hu : upL (n + 1) ys 0 = ys := if_neg (fun q => Nat.lt_irrefl 0 q.1)
      refine ⟨rfl, g, cap, ?_, by rw [own_eq]; exact HP.out, ?_⟩
      · rw [← HUP.out, hu]
        exact HH.out
      · exact own_ok HOW.out
    · obtain ⟨m, rfl⟩ : ∃ m, k = m + 1 := ⟨k - 1, by omega⟩
      have hm : m / 2 < ys.length := by omega
      by_cases hA : Ahead (ys.getD (m + 1) z71) (ys.getD (m / 2) z71)
      · have HA := Aside0.mk (decide_eq_true hA)
        clear hA
        go_wp2_with (first
          | (go_at_call 74; go_loud (refine (ahead_callsI HH.out (m + 1) (m / 2) _ _ (by first | rfl | omega) (by first | rfl | omega) hkl hm true HA.out).mono ?_); rintro e w6 ⟨rfl, hbw⟩; have HH6 := Aside0.mk (HH.out.below hbw); have HP6 := Aside0.mk (HP.out.below hbw); clear hbw HH HP)
          | (go_at_call 70; go_loud (refine (swap_callsI HH6.out (m + 1) (m / 2) _ _ (by first | rfl | omega) (by first | rfl | omega) hkl hm).mono ?_); rintro e w7 ⟨rfl, hh, hg⟩; have HH7 := Aside0.mk hh; have HP7 := Aside0.mk (HP6.out.grownG hg HOW.out); clear hh hg HH6 HP6))
        refine wp_goto ?_
        obtain ⟨n, rfl⟩ : ∃ n', n = n' + 1 := ⟨n - 1, by have := HKN.out; omega⟩
        have hu : upL (n + 1) ys (m + 1) = upL n (swapL ys (m + 1) (m / 2)) (m / 2) := if_pos ⟨Nat.succ_pos m, of_decide_eq_true HA.out⟩
        rw [show (m : Int) / 2 = ((m / 2 : Nat) : Int) from by omega]
        refine HGO.out _ _ ⟨m / 2, g, cap, n, swapL ys (m + 1) (m / 2), _, _, _, _, _, _, _, _, _, _, _, _, _, _, _, _, _, _, _, _, _, _, _, _, _, _, _, _, _, _, _, _, _, rfl, ⟨by rw [swapL_length]; exact hm⟩, ⟨by rw [swapL_length]; exact hyl⟩, ⟨by have := HKN.out; omega⟩, ⟨by rw [← hu]; exact HUP.out⟩, HH7, HP7, HOW⟩ ?_
        show (((m / 2 : Nat) : Int)).toNat < (((m + 1 : Nat) : Int)).toNat
        omega
      · have HA := Aside0.mk (decide_eq_false hA)
        clear hA
        go_wp2_with (first
          | (go_at_call 74; go_loud (refine (ahead_callsI HH.out (m + 1) (m / 2) _ _ (by first | rfl | omega) (by first | rfl | omega) hkl hm false HA.out).mono ?_); rintro e w6 ⟨rfl, hbw⟩; have HH6 := Aside0.mk (HH.out.below hbw); have HP6 := Aside0.mk (HP.out.below hbw); clear hbw HH HP))
        refine HNO.out _ _ ?_
        go_end0
        obtain ⟨n, rfl⟩ : ∃ n', n = n' + 1 := ⟨n - 1, by have := HKN.out; omega⟩
        have hu : upL (n + 1) ys (m + 1) = ys := if_neg (fun q => of_decide_eq_false HA.out q.2)
        refine ⟨rfl, g, cap, ?_, by rw [own_eq]; exact HP6.out, ?_⟩
        · rw [← HUP.out, hu]
          exact HH6.out
        · exact own_ok HOW.out
end Go.Proofs.Ytijflnpgiegajaa.Q
end
section
namespace Go.Proofs.Ytijflnpgiegajaa.Q
open Go.Sort
set_option linter.unusedVariables false
theorem arr_getD (xs : List S71) (j : Nat) : xs.toArray[j]! = xs.getD j z71 := by
  rw [List.getD_eq_getElem?_getD]
  simp only [getElem!_def, List.getElem?_toArray]
  cases xs[j]? <;> rfl
theorem list_getD (d : Array S71) (j : Nat) : d.toList.getD j z71 = d[j]! := by
  rw [List.getD_eq_getElem?_getD]
  simp only [getElem!_def, Array.getElem?_toList]
  cases d[j]? <;> rfl
theorem swapL_getD (xs : List S71) {i k : Nat} (hi : i < xs.length) (hk : k < xs.length) (j : Nat) : (swapL xs i k).getD j z71 = if j = k then xs.getD i z71 else if j = i then xs.getD k z71 else xs.getD j z71 := by
  unfold swapL
  rw [list_getD, swp_get _ (by simpa using hi) (by simpa using hk)]
  simp only [arr_getD]
theorem swapL_perm (xs : List S71) {i k : Nat} (hi : i < xs.length) (hk : k < xs.length) : (swapL xs i k).Perm xs := by
  have h := swp_permIn (α := S71) xs.toArray 0 xs.length i k (Nat.zero_le _) hi (Nat.zero_le _) hk (by simp)
  have h2 := h.2.2
  have e1 : (swp xs.toArray i k).extract 0 xs.length = swp xs.toArray i k := by
    have : (swp xs.toArray i k).size = xs.length := by simp [size_swp]
    rw [← this]; simp
  have e2 : xs.toArray.extract 0 xs.length = xs.toArray := by simp
  rw [e1, e2] at h2
  exact h2
theorem ahead_trans {a b c : S71} (h : ¬ Ahead b a) (h2 : ¬ Ahead c b) : ¬ Ahead c a := by
  unfold Ahead at *; omega
theorem ahead_asymm {a b : S71} (h : Ahead a b) : ¬ Ahead b a := by
  unfold Ahead at *; omega
theorem ahead_irrefl (a : S71) : ¬ Ahead a a := by
  unfold Ahead; omega
def HeapOrd (xs : List S71) : Prop := ∀ i, 0 < i → i < xs.length → ¬ Ahead (xs.getD i z71) (xs.getD ((i - 1) / 2) z71)
theorem heap_head {xs : List S71} (h : HeapOrd xs) : ∀ i, i < xs.length → ¬ Ahead (xs.getD i z71) (xs.getD 0 z71) := by
  intro i
  induction i using Nat.strongRecOn with
  | _ i ih =>
    intro hi
    rcases Nat.eq_zero_or_pos i with rfl | h0
    · exact ahead_irrefl _
    · exact ahead_trans (ih ((i - 1) / 2) (by omega) (by omega)) (h i h0 hi)
theorem upL_perm : ∀ (n : Nat) (xs : List S71) (k : Nat), k < xs.length → (upL n xs k).Perm xs
  | 0, xs, k, _ => .refl _
  | n + 1, xs, k, h => by
    unfold upL
    split
    · have h2 : (k - 1) / 2 < xs.length := by omega
      exact (upL_perm n _ _ (by rw [swapL_length]; exact h2)).trans (swapL_perm xs h h2)
    · exact .refl _
theorem upL_heap : ∀ (n : Nat) (xs : List S71) (k : Nat), k < n → k < xs.length →
    (∀ i, 0 < i → i < xs.length → i ≠ k → ¬ Ahead (xs.getD i z71) (xs.getD ((i - 1) / 2) z71)) →
    (∀ i, 0 < i → i < xs.length → (i - 1) / 2 = k → 0 < k → ¬ Ahead (xs.getD i z71) (xs.getD ((k - 1) / 2) z71)) → HeapOrd (upL n xs k)
  | 0, xs, k, hn, _, _, _ => by omega
  | n + 1, xs, k, hn, hk, h1, h2 => by
    unfold upL
    split
    · rename_i hc
      have hp : (k - 1) / 2 < xs.length := by omega
      have hlt : (k - 1) / 2 < k := by omega
      refine upL_heap n _ _ (by omega) (by rw [swapL_length]; exact hp) ?_ ?_
      · intro i hi hil hne
        rw [swapL_length] at hil
        rw [swapL_getD xs hk hp, swapL_getD xs hk hp]
        rw [if_neg hne]
        by_cases hik : i = k
        · subst hik
          rw [if_pos rfl, if_pos rfl]
          exact ahead_asymm hc.2
        · rw [if_neg hik]
          by_cases hpk : (i - 1) / 2 = k
          · rw [if_neg (by omega), if_pos hpk]
            exact h2 i hi hil hpk hc.1
          · by_cases hpp : (i - 1) / 2 = (k - 1) / 2
            · rw [if_pos hpp]
              have := h1 i hi hil hik
              rw [hpp] at this
              exact ahead_trans (ahead_asymm hc.2) this
            · rw [if_neg hpp, if_neg hpk]
              exact h1 i hi hil hik
      · intro i hi hil hip h0
        rw [swapL_length] at hil
        rw [swapL_getD xs hk hp, swapL_getD xs hk hp]
        have e : ((k - 1) / 2 - 1) / 2 ≠ (k - 1) / 2 := by omega
        have e2 : ((k - 1) / 2 - 1) / 2 ≠ k := by omega
        rw [if_neg e, if_neg e2, if_neg (show i ≠ (k - 1) / 2 by omega)]
        by_cases hik : i = k
        · rw [if_pos hik]
          exact h1 ((k - 1) / 2) h0 hp (by omega)
        · rw [if_neg hik]
          have a1 := h1 i hi hil hik
          rw [hip] at a1
          exact ahead_trans (h1 ((k - 1) / 2) h0 hp (by omega)) a1
    · rename_i hc
      intro i hi hil
      by_cases hik : i = k
      · subst hik
        exact fun q => hc ⟨hi, q⟩
      · exact h1 i hi hil hik
theorem getD_append {xs : List S71} {x : S71} {i : Nat} (h : i < xs.length) : (xs ++ [x]).getD i z71 = xs.getD i z71 := by
  rw [List.getD_eq_getElem?_getD, List.getD_eq_getElem?_getD, List.getElem?_append_left h]
theorem pushL_heap {xs : List S71} (h : HeapOrd xs) (x : S71) : HeapOrd (pushL xs x) := by
  refine upL_heap _ _ _ (Nat.lt_succ_self _) (by simp) ?_ ?_
  · intro i hi hil hne
    have : i < xs.length := by simp at hil; omega
    rw [getD_append this, getD_append (by omega)]
    exact h i hi this
  · intro i hi hil hip h0
    simp at hil
    omega
theorem pushL_perm (xs : List S71) (x : S71) : (pushL xs x).Perm (x :: xs) :=
  (upL_perm _ _ _ (by simp)).trans (List.perm_append_singleton x xs)
theorem pickL_le (xs : List S71) (m b : Nat) : ¬ Ahead (xs.getD m z71) (xs.getD (pickL xs m b) z71) ∧ (b < xs.length → ¬ Ahead (xs.getD b z71) (xs.getD (pickL xs m b) z71)) ∧ (pickL xs m b = m ∨ pickL xs m b = b) := by
  unfold pickL
  split
  · rename_i hc
    exact ⟨ahead_asymm hc.2, fun _ => ahead_irrefl _, .inr rfl⟩
  · rename_i hc
    exact ⟨ahead_irrefl _, fun h q => hc ⟨h, q⟩, .inl rfl⟩
theorem leastL_le (xs : List S71) (k : Nat) : ¬ Ahead (xs.getD k z71) (xs.getD (leastL xs k) z71) ∧ (∀ i, 0 < i → i < xs.length → (i - 1) / 2 = k → ¬ Ahead (xs.getD i z71) (xs.getD (leastL xs k) z71)) ∧ (leastL xs k = k ∨ leastL xs k = 2 * k + 1 ∨ leastL xs k = 2 * k + 2) := by
  have h1 := pickL_le xs k (2 * k + 1)
  have h2 := pickL_le xs (pickL xs k (2 * k + 1)) (2 * k + 2)
  refine ⟨ahead_trans h2.1 h1.1, fun i hi hil hip => ?_, ?_⟩
  · rcases (show i = 2 * k + 1 ∨ i = 2 * k + 2 by omega) with rfl | rfl
    · exact ahead_trans h2.1 (h1.2.1 hil)
    · exact h2.2.1 hil
  · unfold leastL
    rcases h2.2.2 with h | h
    · rw [h]
      rcases h1.2.2 with g | g
      · exact .inl g
      · exact .inr (.inl g)
    · exact .inr (.inr h)
theorem downL_perm : ∀ (n : Nat) (xs : List S71) (k : Nat), (downL n xs k).Perm xs
  | 0, xs, k => .refl _
  | n + 1, xs, k => by
    unfold downL
    split
    · exact .refl _
    · rename_i hc
      have := leastL_gt hc
      exact (downL_perm n _ _).trans (swapL_perm xs (by omega) this.2)
theorem downL_heap : ∀ (n : Nat) (xs : List S71) (k : Nat), xs.length - k < n →
    (∀ i, 0 < i → i < xs.length → (i - 1) / 2 ≠ k → ¬ Ahead (xs.getD i z71) (xs.getD ((i - 1) / 2) z71)) →
    (∀ i, 0 < i → i < xs.length → (i - 1) / 2 = k → 0 < k → ¬ Ahead (xs.getD i z71) (xs.getD ((k - 1) / 2) z71)) → HeapOrd (downL n xs k)
  | 0, xs, k, hn, _, _ => by omega
  | n + 1, xs, k, hn, h1, h2 => by
    have hL := leastL_le xs k
    unfold downL
    split
    · rename_i hc
      rw [hc] at hL
      intro i hi hil
      by_cases hip : (i - 1) / 2 = k
      · rw [hip]
        exact hL.2.1 i hi hil hip
      · exact h1 i hi hil hip
    · rename_i hc
      have hgt := leastL_gt hc
      have hcase := hL.2.2
      have hle := hL.2.1
      have hkm := hL.1
      clear hL
      generalize leastL xs k = m at hgt hcase hle hkm hc
      have hk : k < xs.length := by omega
      have hpm : (m - 1) / 2 = k := by omega
      refine downL_heap n _ _ (by rw [swapL_length]; omega) ?_ ?_
      · intro i hi hil hne
        rw [swapL_length] at hil
        rw [swapL_getD xs hk hgt.2, swapL_getD xs hk hgt.2]
        rw [if_neg hne]
        by_cases him : i = m
        · subst him
          rw [if_pos rfl, if_pos hpm]
          exact hkm
        · rw [if_neg him]
          by_cases hik : i = k
          · subst hik
            rw [if_pos rfl, if_neg (by omega)]
            exact h2 m (by omega) hgt.2 hpm hi
          · rw [if_neg hik]
            by_cases hpk : (i - 1) / 2 = k
            · rw [if_pos hpk]
              exact hle i hi hil hpk
            · rw [if_neg hpk]
              exact h1 i hi hil hpk
      · intro i hi hil hip h0
        rw [swapL_length] at hil
        rw [swapL_getD xs hk hgt.2, swapL_getD xs hk hgt.2, hpm]
        rw [if_neg (show ¬ k = m by omega), if_pos rfl, if_neg (show i ≠ m by omega), if_neg (show i ≠ k by omega)]
        have := h1 i hi hil (by omega)
        rw [hip] at this
        exact this
theorem getD_take {xs : List S71} {n i : Nat} (h : i < n) : (xs.take n).getD i z71 = xs.getD i z71 := by
  rw [List.getD_eq_getElem?_getD, List.getD_eq_getElem?_getD, List.getElem?_take_of_lt h]
theorem popL_heap {x : S71} {xs : List S71} (h : HeapOrd (x :: xs)) : HeapOrd (popL (x :: xs)) := by
  have hl : ((swapL (x :: xs) 0 xs.length).take xs.length).length = xs.length := by simp
  refine downL_heap _ _ _ ?_ ?_ ?_
  · show ((swapL (x :: xs) 0 xs.length).take xs.length).length - 0 < xs.length + 1
    rw [hl]; omega
  · show ∀ i, 0 < i → i < ((swapL (x :: xs) 0 xs.length).take xs.length).length → _
    intro i hi hil hne
    rw [hl] at hil
    show ¬ Ahead (((swapL (x :: xs) 0 xs.length).take xs.length).getD i z71) (((swapL (x :: xs) 0 xs.length).take xs.length).getD ((i - 1) / 2) z71)
    rw [getD_take hil, getD_take (by omega), swapL_getD _ (by simp) (by simp), swapL_getD _ (by simp) (by simp)]
    rw [if_neg (by omega), if_neg (by omega), if_neg (by omega), if_neg (by omega)]
    exact h i hi (by simp; omega)
  · intro i hi hil hip h0
    omega
theorem popL_perm (x : S71) (xs : List S71) : (popL (x :: xs)).Perm xs := by
  refine (downL_perm _ _ _).trans ?_
  show ((swapL (x :: xs) 0 xs.length).take xs.length).Perm xs
  have hp := swapL_perm (x :: xs) (i := 0) (k := xs.length) (by simp) (by simp)
  have hlen : (swapL (x :: xs) 0 xs.length).length = xs.length + 1 := by simp
  have hlast : (swapL (x :: xs) 0 xs.length).drop xs.length = [x] := by
    refine List.ext_getElem? fun j => ?_
    rw [List.getElem?_drop]
    rcases Nat.eq_zero_or_pos j with rfl | hj
    · have := swapL_getD (x :: xs) (i := 0) (k := xs.length) (by simp) (by simp) xs.length
      rw [if_pos rfl, List.getD_eq_getElem?_getD, List.getElem?_eq_getElem (by omega)] at this
      rw [Nat.add_zero, List.getElem?_eq_getElem (by omega)]
      simpa using this
    · rw [List.getElem?_eq_none (by omega), List.getElem?_eq_none (by simp; omega)]
  have hs : (swapL (x :: xs) 0 xs.length).take xs.length ++ [x] = swapL (x :: xs) 0 xs.length := by rw [← hlast]; exact List.take_append_drop _ _
  rw [← hs] at hp
  have := (List.perm_append_singleton x ((swapL (x :: xs) 0 xs.length).take xs.length)).symm.trans hp
  exact (List.perm_cons x).1 this
theorem pop_least {x : S71} {xs : List S71} (h : HeapOrd (x :: xs)) : ∀ y ∈ xs, ¬ Ahead y x := by
  intro y hy
  obtain ⟨i, hi, rfl⟩ := List.getElem_of_mem hy
  have := heap_head h (i + 1) (by simpa using hi)
  simpa [List.getD_eq_getElem?_getD, List.getElem?_eq_getElem hi] using this
end Go.Proofs.Ytijflnpgiegajaa.Q
end
section
namespace Go.Proofs.Ytijflnpgiegajaa.Q
open Go.RowKit Go.Sort Go.Proofs.YtijflnpgiegajaaW.PrintWords Go.Proofs.YtijflnpgiegajaaW.PrintLast Go.Proofs.YtijflnpgiegajaaW.PrintMore Go.Proofs.Ytijflnpgiegajaa.IM Go.Proofs.Ytijflnpgiegajaa.Ev
set_option linter.unusedVariables false
set_option linter.unusedSimpArgs false
def NewPost (w : World) (x : S71) (e : Ending) (w' : World) : Prop := ∃ hb g cap : Nat, e = .returned (.pointer (some ⟨hb, 0, none⟩)) ∧ HeapW w' w.heap.size hb g cap [x] ∧ Below w.heap.size w w' ∧ w.heap.size ≤ hb ∧ w.heap.size ≤ g
set_option maxHeartbeats 8000000 in
set_option maxRecDepth 100000 in
theorem new_calls (x : S71) (A : Option Addr) (c : Nat) (w : World) (hr : Kd.C k71 w A 1 [x]) :
    Calls Try.prog 42 #[.slice A 1 c] w fun e w' => NewPost w x e w' := by
  obtain ⟨ad, e0, hx0, hx1⟩ := at_T71 hr 0 (by decide) (by decide)
  cases e0
  have cx0 : w.cell? (ad.add (0 * 2)) = some (.int .i64 x.f0) := hx0
  have cx1 : w.cell? ⟨(ad.add (0 * 2)).block, (ad.add (0 * 2)).off + 1, none⟩ = some (.int .i64 x.f1) := hx1
  clear hx0 hx1 hr
  go_enter Try.func42, Try.ntmps42
  go_wp2
  obtain ⟨hb, W, hhb, hW⟩ : ∃ hb W, hb = w.heap.size ∧ W = w.alloc (.cells #[.slice none 0 0] 110) := ⟨_, _, rfl, rfl⟩
  rw [← hW, ← hhb]
  have hbw : Below w.heap.size w W := by rw [hW]; exact below_alloc (Below.refl _ _) _
  have HD := Aside0.mk (show W.heap[hb]? = some (.cells #[.slice none 0 0] 110 (0, 0)) by rw [hW, hhb]; exact blk_new w _)
  have HB := Aside0.mk hbw
  have HGE := Aside0.mk (Nat.le_of_eq hhb.symm)
  clear hW hhb hbw
  go_loopg [5, 10] 1 (fun kq _ v10 w' => ∃ i : Nat, v10 = .int .i64 (i : Int) ∧ Aside0 (i + kq = 1) ∧ Aside0 (Below w.heap.size w w') ∧ Aside0 (if kq = 1 then w'.heap[hb]? = some (.cells #[.slice none 0 0] 110 (0, 0)) else ∃ g cap : Nat, HeapW w' w.heap.size hb g cap [x] ∧ w.heap.size ≤ g))
  case atStart => exact ⟨0, rfl, ⟨rfl⟩, HB, ⟨HD.out⟩⟩
  case round =>
    clear HD HB
    obtain ⟨i, rfl, HI, HB, HC⟩ := hrel
    match gk with
    | 0 =>
      have hi : i = 1 := by have := HI.out; omega
      subst hi
      obtain ⟨g, cap, HH, HG⟩ : ∃ g cap : Nat, HeapW _ w.heap.size hb g cap [x] ∧ w.heap.size ≤ g := HC.out
      have HH1 := Aside0.mk HH
      clear HH
      go_wp2
      go_ret
      exact ⟨hb, g, cap, rfl, HH1.out, HB.out, HGE.out, HG⟩
    | 1 =>
      have hi : i = 0 := by have := HI.out; omega
      have i0 : (0 : Int) ≤ (i : Int) := by omega
      have i2 : (i : Int) < 1 := by omega
      have i3 : wrap64 ((i : Int) + 1) = 1 := by rw [wrap_in (by omega) (by omega)]; omega
      have hd : _ = some (Obj.cells #[.slice none 0 0] 110 (0, 0)) := HC.out
      have HD := Aside0.mk hd
      have y0 := pw_cell_below HB.out cx0
      have y1 := pw_cell_below HB.out cx1
      have e0 : ad.add (0 * 2) = ad := by simp [Addr.add]
      rw [e0] at y0 y1
      clear hd HC
      go_wp2_with (first
        | ((with_reducible refine gate_dst (N := 5) rfl ?_); go_loud (refine box2 5 rfl rfl rfl rfl rfl rfl #[.int .i64 x.f0, .int .i64 x.f1] info71 rfl rfl (by simp [Value.oneCell']) (by first | (go_simp; done) | (go_simp; rfl)) (by first | (go_simp; done) | (go_simp; rfl)) ?_); intro gx w4 hg hblk hbw hs; have HB4 := Aside0.mk (below_step HB.out hbw); have HD4 := Aside0.mk (blk_below HD.out hbw); have z0 := (blk_cell hblk 0).trans rfl; have z1 := (blk_cell hblk 1).trans rfl; clear hg hblk hbw hs y0 y1 HB HD)
        | (go_at_call 47; go_loud (refine (push_calls (base := w.heap.size) (v := .slice none 0 0) (xs := []) x ⟨HD4.out, Kd.R_nil _ _ _ _ _⟩ HB4.out.size (by simp)).mono ?_); rintro e w5 ⟨rfl, g, cap, hh, hk, ho⟩; have HH5 := Aside0.mk (show HeapW w5 w.heap.size hb g cap [x] from hh); have HB5 := Aside0.mk (show Below w.heap.size w w5 from ⟨hk.os.trans HB4.out.os, hk.tape.trans HB4.out.tape, hk.output.trans HB4.out.output, Nat.le_trans HB4.out.size hk.size, fun k hlt => (hk.block k (Nat.lt_of_lt_of_le hlt HB4.out.size) (by have := HGE.out; omega) (by simp [Value.ownBlock])).trans (HB4.out.block k hlt)⟩); have HG5 := Aside0.mk (show w.heap.size ≤ g from ho.elim (fun e => by simp [Value.ownBlock] at e) (fun h => Nat.le_trans HB4.out.size h)); clear hh hk ho HB4 HD4))
      go_roundg 0
      case measure => omega
      case rel => exact ⟨1, by first | rfl | (simp; done) | (rw [i3]; rfl) | (go_num; omega), ⟨rfl⟩, HB5, ⟨⟨g, cap, HH5.out, HG5.out⟩⟩⟩
    | kq + 2 => have := HI.out; omega
end Go.Proofs.Ytijflnpgiegajaa.Q
end
section
namespace Go.Proofs.Ytijflnpgiegajaa.Q
open Go.RowKit Go.Proofs.YtijflnpgiegajaaW.PrintWords Go.Proofs.YtijflnpgiegajaaW.PrintLast Go.Proofs.YtijflnpgiegajaaW.PrintMore Go.Proofs.Ytijflnpgiegajaa.IM
set_option linter.unusedVariables false
set_option linter.unusedSimpArgs false
def pushE (size : Int) (shut : List Int) (out : List S71) (r : S71) (q : List S71) (e : S65) : List S71 :=
  if PassP e r.f1 size ∧ e.f2 ∉ out.map (·.f0) ∧ e.f2 ∉ shut then pushL q ⟨e.f2, thereAt e r.f1 size⟩ else q
def pushAll (l : List S65) (size : Int) (shut : List Int) (out : List S71) (r : S71) (q : List S71) : List S71 :=
  (l.filter (fun e => decide (e.f1 = r.f0))).foldl (pushE size shut out r) q
def earlyGo (l : List S65) (size : Int) (shut : List Int) : Nat → List S71 → List S71 → Option (List S71)
  | 0, _, _ => none
  | n + 1, out, q => if out.length ≤ 1000001 ∧ q.length ≤ 1000001 then (match q with
    | [] => some out
    | x :: xs => if x.f0 ∈ out.map (·.f0) then earlyGo l size shut n out (popL (x :: xs)) else earlyGo l size shut n (out ++ [x]) (pushAll l size shut (out ++ [x]) x (popL (x :: xs)))) else none
def early_Times.f (l0 : List S65) (a1 a2 a3 : Int) (l4 : List Int) : Option (List S71) :=
  if l0.length ≤ 1000000 ∧ l4.length ≤ 1000000 then (if Asked l0 a1 a2 a3 then (earlyGo l0 a3 l4 (l0.length + 2) [] [⟨a1, a2⟩]).map sortR else some []) else none
theorem pushL_len (q : List S71) (x : S71) : (pushL q x).length = q.length + 1 := by
  have := (pushL_perm q x).length_eq
  simpa using this
theorem pushE_len (size : Int) (shut : List Int) (out : List S71) (r : S71) (q : List S71) (e : S65) : (pushE size shut out r q e).length ≤ q.length + 1 := by
  unfold pushE
  split
  · rw [pushL_len]; exact Nat.le_refl _
  · omega
theorem pushFold_len (size : Int) (shut : List Int) (out : List S71) (r : S71) (es : List S65) : ∀ q : List S71, (es.foldl (pushE size shut out r) q).length ≤ q.length + es.length := by
  induction es with
  | nil => intro q; simp
  | cons e es ih =>
    intro q
    have h1 := ih (pushE size shut out r q e)
    have h2 := pushE_len size shut out r q e
    simp only [List.foldl_cons, List.length_cons]
    omega
def restE (l : List S65) (out : List S71) : List S65 := l.filter (fun e => decide (e.f1 ∉ out.map (·.f0)))
theorem restE_step (l : List S65) (out : List S71) (x : S71) (hx : x.f0 ∉ out.map (·.f0)) : (restE l (out ++ [x])).length + (l.filter (fun e => decide (e.f1 = x.f0))).length = (restE l out).length := by
  unfold restE
  induction l with
  | nil => rfl
  | cons e r ih =>
    simp only [List.filter_cons]
    by_cases h1 : e.f1 = x.f0
    · have a1 : ¬ (e.f1 ∉ (out ++ [x]).map (·.f0)) := by simp [h1]
      have a2 : e.f1 ∉ out.map (·.f0) := by rw [h1]; exact hx
      simp only [decide_eq_false a1, decide_eq_true a2, decide_eq_true h1, if_true, Bool.false_eq_true, if_false, List.length_cons]
      omega
    · by_cases h2 : e.f1 ∈ out.map (·.f0)
      · have a1 : ¬ (e.f1 ∉ (out ++ [x]).map (·.f0)) := by
          rw [List.map_append]
          exact fun q => q (List.mem_append_left _ h2)
        simp only [decide_eq_false a1, decide_eq_false (fun q : e.f1 ∉ out.map (·.f0) => q h2), decide_eq_false h1, Bool.false_eq_true, if_false]
        exact ih
      · have a1 : e.f1 ∉ (out ++ [x]).map (·.f0) := by
          rw [List.map_append]
          intro q
          rcases List.mem_append.1 q with q | q
          · exact h2 q
          · exact h1 (by simpa using q)
        simp only [decide_eq_true a1, decide_eq_true h2, decide_eq_false h1, if_true, Bool.false_eq_true, if_false, List.length_cons]
        omega
theorem earlyGo_some (l : List S65) (hl : l.length ≤ 1000000) (size : Int) (shut : List Int) : ∀ (n : Nat) (out q : List S71), q.length + (restE l out).length < n → q.length + (restE l out).length ≤ l.length + 1 → out.length + (q.length + (restE l out).length) ≤ 1000001 → ∃ r, earlyGo l size shut n out q = some r
  | 0, out, q, h, _, _ => by omega
  | n + 1, out, q, h, hb, ho => by
    unfold earlyGo
    cases q with
    | nil => exact ⟨out, by rw [if_pos ⟨by omega, by simp⟩]⟩
    | cons x xs =>
      simp only [List.length_cons] at h hb ho
      rw [if_pos ⟨by omega, by simp; omega⟩]
      have hp := (popL_perm x xs).length_eq
      simp only
      split
      · exact earlyGo_some l hl size shut n out _ (by omega) (by omega) (by omega)
      · rename_i hx
        have hs := restE_step l out x hx
        have hf := pushFold_len size shut (out ++ [x]) x (l.filter (fun e => decide (e.f1 = x.f0))) (popL (x :: xs))
        have hpa : (pushAll l size shut (out ++ [x]) x (popL (x :: xs))).length ≤ (popL (x :: xs)).length + (l.filter (fun e => decide (e.f1 = x.f0))).length := hf
        have hol : (out ++ [x]).length = out.length + 1 := by simp
        exact earlyGo_some l hl size shut n _ _ (by omega) (by omega) (by omega)
end Go.Proofs.Ytijflnpgiegajaa.Q
end
section
namespace Go.Proofs.Ytijflnpgiegajaa.Q
open Go.RowKit Go.Proofs.YtijflnpgiegajaaW.PrintWords Go.Proofs.YtijflnpgiegajaaW.PrintLast Go.Proofs.YtijflnpgiegajaaW.PrintMore Go.Proofs.Ytijflnpgiegajaa.IM Go.Proofs.Ytijflnpgiegajaa.Ev
set_option linter.unusedVariables false
set_option linter.unusedSimpArgs false
attribute [local go_sem] max2_int min2_int max_two min_two
section
variable {P : Program} {ops : Array Oper} {Q : Exit → Act → World → Prop} {o : Oper} {rest : List Oper} {a : Act} {W : World}
theorem gate_insert {t : TypeId} {m x y : Operand} (_ho : o.op = .insert t m x y) (h : wpList P ops Q (o :: rest) a W) : wpList P ops Q (o :: rest) a W := h
end
def itT (l : List S65) (dst size : Int) (sh : List Int) : Nat → List (Int × Int) → List (Int × Int)
  | 0, T => T
  | n + 1, T => stepT l dst size sh (itT l dst size sh n T)
theorem aset_len {α : Type} (m : List (Int × α)) (k : Int) (v : α) : (aset m k v).length ≤ m.length + 1 ∧ m.length ≤ (aset m k v).length := by
  induction m with
  | nil => simp [aset]
  | cons p r ih =>
    unfold aset
    split
    · simp
    · simp only [List.length_cons]; omega
theorem laterM_len (m : List (Int × Int)) (n t : Int) : (laterM m n t).length ≤ m.length + 1 ∧ m.length ≤ (laterM m n t).length := by
  unfold laterM
  have := aset_len m n t
  split
  · exact this
  · split
    · exact this
    · omega
theorem laterM_nodup {m : List (Int × Int)} (h : (m.map (·.1)).Nodup) (n t : Int) : ((laterM m n t).map (·.1)).Nodup := by
  unfold laterM
  split
  · exact nodup_aset h _ _
  · split
    · exact nodup_aset h _ _
    · exact h
theorem stepE_len (T : List (Int × Int)) (dst size : Int) (sh : List Int) (m : List (Int × Int)) (e : S65) : (stepE T dst size sh m e).length ≤ m.length + 1 ∧ m.length ≤ (stepE T dst size sh m e).length := by
  unfold stepE
  split
  · omega
  · split
    · omega
    · split
      · exact laterM_len _ _ _
      · omega
theorem stepE_nodup (T : List (Int × Int)) (dst size : Int) (sh : List Int) {m : List (Int × Int)} (h : (m.map (·.1)).Nodup) (e : S65) : ((stepE T dst size sh m e).map (·.1)).Nodup := by
  unfold stepE
  split
  · exact h
  · split
    · exact h
    · split
      · exact laterM_nodup h _ _
      · exact h
theorem stepGo_len (T : List (Int × Int)) (dst size : Int) (sh : List Int) (l : List S65) : ∀ m : List (Int × Int), (l.foldl (stepE T dst size sh) m).length ≤ m.length + l.length ∧ m.length ≤ (l.foldl (stepE T dst size sh) m).length := by
  induction l with
  | nil => intro m; simp
  | cons e r ih =>
    intro m
    have h1 := ih (stepE T dst size sh m e)
    have h2 := stepE_len T dst size sh m e
    simp only [List.foldl_cons, List.length_cons]
    omega
theorem stepGo_nodup (T : List (Int × Int)) (dst size : Int) (sh : List Int) (l : List S65) : ∀ m : List (Int × Int), (m.map (·.1)).Nodup → ((l.foldl (stepE T dst size sh) m).map (·.1)).Nodup := by
  induction l with
  | nil => intro m h; exact h
  | cons e r ih => intro m h; exact ih _ (stepE_nodup T dst size sh h e)
theorem itT_ok (l : List S65) (dst size : Int) (sh : List Int) (n : Nat) (T : List (Int × Int)) (h : (T.map (·.1)).Nodup) : ((itT l dst size sh n T).map (·.1)).Nodup ∧ (itT l dst size sh n T).length ≤ T.length + n * l.length ∧ T.length ≤ (itT l dst size sh n T).length := by
  induction n with
  | zero => exact ⟨h, by simp [itT], Nat.le_refl _⟩
  | succ n ih =>
    have h1 := stepGo_len (itT l dst size sh n T) dst size sh l (itT l dst size sh n T)
    refine ⟨stepGo_nodup _ _ _ _ l _ ih.1, ?_, ?_⟩
    · show (List.foldl (stepE (itT l dst size sh n T) dst size sh) (itT l dst size sh n T) l).length ≤ _
      rw [Nat.add_mul, Nat.one_mul]
      omega
    · show _ ≤ (List.foldl (stepE (itT l dst size sh n T) dst size sh) (itT l dst size sh n T) l).length
      omega
def fewGo (l : List S65) (dst size : Int) (sh : List Int) (frm now : Int) : Nat → Nat → List (Int × Int) → Int × Bool
  | 0, _, _ => (0, false)
  | k + 1, h, T => match aget T frm with
    | none => fewGo l dst size sh frm now k (h + 1) (stepT l dst size sh T)
    | some x => if now ≤ x then ((h : Int), true) else fewGo l dst size sh frm now k (h + 1) (stepT l dst size sh T)
def late_Times.f (l0 : List S65) (a1 a2 a3 a4 : Int) (l5 : List Int) : Option (List S71) :=
  if l0.length ≤ 1000000 ∧ l5.length ≤ 1000000 then some (if a4 < 0 ∨ ¬ Asked l0 a1 a2 a3 then [] else rowT (itT l0 a1 a3 l5 (min a4 (l0.length : Int)).toNat [(a1, a2)])) else none
def late_Fewest.f (l0 : List S65) (a1 a2 a3 a4 a5 : Int) (l6 : List Int) : Option (Int × Bool) :=
  if l0.length ≤ 1000000 ∧ l6.length ≤ 1000000 then some (if ¬ Asked l0 a1 a3 a5 ∨ ¬ Asked l0 a2 a4 a5 then (0, false) else fewGo l0 a2 a5 l6 a1 a3 (l0.length + 1) 0 [(a2, a4)]) else none
set_option maxHeartbeats 8000000 in
set_option maxRecDepth 100000 in
theorem late_Times.calls (A0 : Option Addr) (c0 : Nat) (l0 : List (S65)) (a1 : Int) (a2 : Int) (a3 : Int) (a4 : Int) (A5 : Option Addr) (c5 : Nat) (l5 : List Int) (r : List (S71)) (w : World) (hr0 : Kd.C k65 w A0 l0.length l0) (hc0 : l0.length ≤ c0) (hr5 : Kd.C (Kd.int .i64) w A5 l5.length l5) (hc5 : l5.length ≤ c5) (h : late_Times.f l0 a1 a2 a3 a4 l5 = some r) :
    Calls Try.prog 65 #[.slice A0 l0.length c0, .int .i64 a1, .int .i64 a2, .int .i64 a3, .int .i64 a4, .slice A5 l5.length c5] w fun e w' => ∃ v0_ : Value, e = .returned (v0_) ∧ Kd.R k71 71 w' w.heap.size (fun _ => True) v0_ r ∧ Below w.heap.size w w' := by
  unfold late_Times.f at h
  split at h
  case isFalse => exact absurd h (by simp)
  rename_i hlen
  injection h with h
  have hask := late_asked_eq l0 hlen.1 (l0.length + 2) (by omega) a1 a2 a3
  have HR0 := Aside0.mk hr0
  have HC0 := Aside0.mk hc0
  have HR5 := Aside0.mk hr5
  have HC5 := Aside0.mk hc5
  have HLN := Aside0.mk hlen
  have HB := Aside0.mk (Below.refl w.heap.size w)
  clear hr0 hc0 hr5 hc5 hlen
  by_cases h4 : a4 < 0
  · rw [if_pos (Or.inl h4)] at h
    subst h
    have HO := Aside0.mk (Kd.R_nil k71 71 w w.heap.size (fun _ => True))
    clear hask
    go_enter Try.func65, Try.ntmps65
    go_wp2
    go_ret
    exact ⟨_, rfl, HO.out, HB.out⟩
  · by_cases hA : Asked l0 a1 a2 a3
    · rw [decide_eq_true hA] at hask
      rw [if_neg (fun q => q.elim h4 (fun q => q hA))] at h
      have HAS := Aside0.mk hask
      obtain ⟨n, hn⟩ : ∃ n : Nat, (min a4 (l0.length : Int)).toNat = n := ⟨_, rfl⟩
      rw [hn] at h
      have hmin : min a4 (l0.length : Int) = (n : Int) := by omega
      have hnl : n ≤ l0.length := by omega
      have HMIN := Aside0.mk hmin
      have HNL := Aside0.mk hnl
      have HH := Aside0.mk h
      have h4b : ¬ a4 < 0 := h4
      clear hask h hA hn hmin hnl
      rcases Int.lt_or_le (l0.length : Int) a4 with hcm | hcm
      all_goals
        go_enter Try.func65, Try.ntmps65
        go_wp2_with (first
          | (go_at_call 52; go_loud (refine (late_asked.calls (l0.length + 2) A0 c0 l0 a1 a2 a3 true _ HR0.out HC0.out HAS.out).mono ?_); rintro e w1 ⟨rfl, hb⟩; have HB1 := Aside0.mk hb; clear hb HB)
          | ((with_reducible refine gate_dst (N := 24) rfl ?_); go_loud (refine im_make 24 rfl rfl rfl ?_); intro b2 w2 hb hm hbw hs; have HM2 := Aside0.mk hm; have HGE2 := Aside0.mk (show w.heap.size ≤ b2 from Nat.le_trans HB1.out.size (Nat.le_of_eq hb.symm)); have HB2 := Aside0.mk (below_step HB1.out hbw); clear hb hm hbw hs HB1)
          | ((with_reducible refine gate_insert (t := 89) (m := .tmp 24) (x := .tmp 25) (y := .tmp 26) rfl ?_); go_loud (refine im_insert (Value.int .i64) rfl rfl rfl Try.underlying89 Try.underlying3 b2 [] a1 a2 rfl rfl rfl HM2.out ?_); intro w3 hm3 hg3 hs3; have HM3 := Aside0.mk hm3; have HB3 := Aside0.mk (below_grown_one HB2.out hg3 HGE2.out); clear hm3 hg3 hs3 HM2 HB2 HGE2))
        have HT0 := Aside0.mk (show TMap _ b2 (itT l0 a1 a3 l5 0 [(a1, a2)]) from ⟨[(a1, a2)], fun _ => rfl, HM3.out⟩)
        go_loopg [13, 32] n (fun kq v13 v32 w' => ∃ (i b : Nat), v13 = .map (some b) ∧ v32 = .int .i64 (i : Int) ∧ Aside0 (i + kq = n) ∧ Aside0 (TMap w' b (itT l0 a1 a3 l5 i [(a1, a2)])) ∧ Aside0 (Below w.heap.size w w'))
        case atStart => exact ⟨0, b2, rfl, rfl, ⟨by omega⟩, HT0, HB3⟩
        case round =>
          clear HT0 HB3 HM3
          obtain ⟨i, b, rfl, rfl, HI, HT, HB⟩ := hrel
          cases gk with
          | zero =>
            have hin : i = n := by have := HI.out; omega
            subst hin
            have hmi := HMIN.out
            first | (have hi : ¬ ((i : Nat) : Int) < (l0.length : Int) := by omega) | (have hi : ¬ ((i : Nat) : Int) < a4 := by omega)
            clear hmi
            have HOK := Aside0.mk (itT_ok l0 a1 a3 l5 i [(a1, a2)] (by simp))
            have HTN := Aside0.mk (show itT l0 a1 a3 l5 i [(a1, a2)] ≠ [] from fun e => by have := HOK.out.2.2; rw [e] at this; simp at this)
            have HTL := Aside0.mk (show (itT l0 a1 a3 l5 i [(a1, a2)]).length ≤ 2000000000000 by
              have h1 := HOK.out.2.1
              have h2 : i * l0.length ≤ 1000000 * 1000000 := Nat.mul_le_mul (Nat.le_trans HNL.out HLN.out.1) HLN.out.1
              simp only [List.length_cons, List.length_nil] at h1
              omega)
            go_wp2_with (first
              | (go_at_call 88; go_loud (refine (row_calls b _ _ HT.out HOK.out.1 HTN.out HTL.out).mono ?_); rintro e w6 ⟨v6, rfl, ho, hb⟩; have HO6 := Aside0.mk ho; have HB6 := Aside0.mk (below_step HB.out hb); have HSZ := Aside0.mk HB.out.size; clear hb ho HB))
            go_ret
            exact ⟨_, rfl, by rw [← HH.out]; exact Kd.R_lower HO6.out HSZ.out, HB6.out⟩
          | succ k1 =>
            have hmi := HMIN.out
            have hi1 : ((i : Nat) : Int) < (l0.length : Int) := by have := HI.out; omega
            have hi2 : ((i : Nat) : Int) < a4 := by have := HI.out; omega
            have hll := HLN.out.1
            have hwr := wrap_succ (n := l0.length) i (by omega) hll
            clear hmi
            go_wp2_with (first
              | (go_at_call 53; go_loud (refine (step_calls b _ A0 c0 l0 a1 a3 A5 c5 l5 _ HT.out (Kd.C_below HR0.out HB.out) HC0.out (Kd.C_below HR5.out HB.out) HC5.out HLN.out.2).mono ?_); rintro e w6 ⟨b6, rfl, hge, ht, hb⟩; have HT6 := Aside0.mk ht; have HB6 := Aside0.mk (below_step HB.out hb); clear hb ht hge HB HT))
            go_roundg k1
            case measure => omega
            case rel => exact ⟨i + 1, b6, rfl, by first | rfl | (simp; done) | (rw [hwr]; done) | (go_num; done), ⟨by have := HI.out; omega⟩, HT6, HB6⟩
    · rw [decide_eq_false hA] at hask
      rw [if_pos (Or.inr hA)] at h
      subst h
      have HAS := Aside0.mk hask
      clear hask hA
      go_enter Try.func65, Try.ntmps65
      go_wp2_with (first
        | (go_at_call 52; go_loud (refine (late_asked.calls (l0.length + 2) A0 c0 l0 a1 a2 a3 false _ HR0.out HC0.out HAS.out).mono ?_); rintro e w1 ⟨rfl, hb⟩; have HB1 := Aside0.mk hb; clear hb HB))
      go_ret
      exact ⟨_, rfl, Kd.R_nil k71 71 _ w.heap.size (fun _ => True), HB1.out⟩
set_option maxHeartbeats 8000000 in
set_option maxRecDepth 100000 in
theorem late_Fewest.calls (A0 : Option Addr) (c0 : Nat) (l0 : List (S65)) (a1 : Int) (a2 : Int) (a3 : Int) (a4 : Int) (a5 : Int) (A6 : Option Addr) (c6 : Nat) (l6 : List Int) (r1 : Int) (r2 : Bool) (w : World) (hr0 : Kd.C k65 w A0 l0.length l0) (hc0 : l0.length ≤ c0) (hr6 : Kd.C (Kd.int .i64) w A6 l6.length l6) (hc6 : l6.length ≤ c6) (h : late_Fewest.f l0 a1 a2 a3 a4 a5 l6 = some (r1, r2)) :
    Calls Try.prog 23 #[.slice A0 l0.length c0, .int .i64 a1, .int .i64 a2, .int .i64 a3, .int .i64 a4, .int .i64 a5, .slice A6 l6.length c6] w fun e w' => e = .returned (.tuple #[.int .i64 r1, .bool r2]) ∧ Below w.heap.size w w' := by
  unfold late_Fewest.f at h
  split at h
  case isFalse => exact absurd h (by simp)
  rename_i hlen
  injection h with h
  have hask1 := late_asked_eq l0 hlen.1 (l0.length + 2) (by omega) a1 a3 a5
  have hask2 := late_asked_eq l0 hlen.1 (l0.length + 2) (by omega) a2 a4 a5
  have HR0 := Aside0.mk hr0
  have HC0 := Aside0.mk hc0
  have HR5 := Aside0.mk hr6
  have HC5 := Aside0.mk hc6
  have HLN := Aside0.mk hlen
  have HB := Aside0.mk (Below.refl w.heap.size w)
  clear hr0 hc0 hr6 hc6 hlen
  by_cases hA : Asked l0 a1 a3 a5
  · rw [decide_eq_true hA] at hask1
    have HAS1 := Aside0.mk hask1
    clear hask1
    by_cases hA2 : Asked l0 a2 a4 a5
    · rw [decide_eq_true hA2] at hask2
      rw [if_neg (fun q => q.elim (fun q => q hA) (fun q => q hA2))] at h
      have HAS2 := Aside0.mk hask2
      have HH := Aside0.mk h
      clear hask2 hA hA2 h
      go_enter Try.func23, Try.ntmps23
      go_wp2_with (first
        | (go_at_call 52; have hq := HB; clear hq; go_loud (refine (late_asked.calls (l0.length + 2) A0 c0 l0 a1 a3 a5 true _ HR0.out HC0.out HAS1.out).mono ?_); rintro e w1 ⟨rfl, hb⟩; have HB1 := Aside0.mk hb; have HR1 := Aside0.mk (Kd.C_below HR0.out hb); clear hb HB)
        | (go_at_call 52; go_loud (refine (late_asked.calls (l0.length + 2) A0 c0 l0 a2 a4 a5 true _ HR1.out HC0.out HAS2.out).mono ?_); rintro e w1 ⟨rfl, hb⟩; have HB2 := Aside0.mk (below_step HB1.out hb); clear hb HB1 HR1)
        | ((with_reducible refine gate_dst (N := 34) rfl ?_); go_loud (refine im_make 34 rfl rfl rfl ?_); intro b2 w2 hb hm hbw hs; have HM3 := Aside0.mk hm; have HGE3 := Aside0.mk (show w.heap.size ≤ b2 from Nat.le_trans HB2.out.size (Nat.le_of_eq hb.symm)); have HB3 := Aside0.mk (below_step HB2.out hbw); clear hb hm hbw hs HB2)
        | ((with_reducible refine gate_insert (t := 89) (m := .tmp 34) (x := .tmp 35) (y := .tmp 36) rfl ?_); go_loud (refine im_insert (Value.int .i64) rfl rfl rfl Try.underlying89 Try.underlying3 b2 [] a2 a4 rfl rfl rfl HM3.out ?_); intro w3 hm3 hg3 hs3; have HM4 := Aside0.mk hm3; have HB4 := Aside0.mk (below_grown_one HB3.out hg3 HGE3.out); clear hm3 hg3 hs3 HM3 HB3 HGE3))
      have HT0 := Aside0.mk (show TMap _ b2 (itT l0 a2 a5 l6 0 [(a2, a4)]) from ⟨[(a2, a4)], fun _ => rfl, HM4.out⟩)
      have hll := HLN.out.1
      have hwl : wrap64 ((l0.length : Int) + 1) = (l0.length : Int) + 1 := wrap_in (by omega) (by omega)
      rw [hwl]
      go_loopg [16, 17, 18, 19, 41] (l0.length + 1) (fun kq v16 _ _ _ v41 w' => ∃ (i b : Nat), v16 = .map (some b) ∧ v41 = .int .i64 (i : Int) ∧ Aside0 (i + kq = l0.length + 1) ∧ Aside0 (TMap w' b (itT l0 a2 a5 l6 i [(a2, a4)])) ∧ Aside0 (Below w.heap.size w w') ∧ Aside0 (fewGo l0 a2 a5 l6 a1 a3 kq i (itT l0 a2 a5 l6 i [(a2, a4)]) = (r1, r2)))
      case atStart => exact ⟨0, b2, rfl, rfl, ⟨by omega⟩, HT0, HB4, HH⟩
      case round =>
        clear HT0 HB4 HM4 HH
        obtain ⟨i, b, rfl, rfl, HI, HT, HB, HF⟩ := hrel
        cases gk with
        | zero =>
          have hi : ¬ ((i : Nat) : Int) < (l0.length : Int) + 1 := by have := HI.out; omega
          have hff := HF.out
          simp only [fewGo, Prod.mk.injEq] at hff
          obtain ⟨rfl, rfl⟩ := hff
          go_wp2
          go_ret2
          exact ⟨rfl, HB.out⟩
        | succ k1 =>
          have hi : ((i : Nat) : Int) < (l0.length : Int) + 1 := by have := HI.out; omega
          have hwr : wrap64 ((i : Int) + 1) = ((i + 1 : Nat) : Int) := by rw [wrap_in (by omega) (by omega)]; omega
          obtain ⟨t, hag, hm⟩ := HT.out
          have HM := Aside0.mk hm
          have hff := HF.out
          simp only [fewGo] at hff
          cases hg : aget (itT l0 a2 a5 l6 i [(a2, a4)]) a1 with
          | none =>
            have HA := Aside0.mk ((hag a1).trans hg)
            rw [hg] at hff
            have HGO := Aside0.mk (show fewGo l0 a2 a5 l6 a1 a3 k1 (i + 1) (itT l0 a2 a5 l6 (i + 1) [(a2, a4)]) = (r1, r2) from hff)
            clear hag hm hff hg HF
            go_wp2_with (first
              | (at_lookup; go_loud (refine im_look2 (Value.int .i64) 0 47 rfl rfl rfl Try.underlying89 Try.underlying3 zero3 b t a1 rfl rfl HM.out ?_); rw [HA.out])
              | (go_at_call 53; go_loud (refine (step_calls b _ A0 c0 l0 a2 a5 A6 c6 l6 _ HT.out (Kd.C_below HR0.out HB.out) HC0.out (Kd.C_below HR5.out HB.out) HC5.out HLN.out.2).mono ?_); rintro e w6 ⟨b6, rfl, hge, ht, hb⟩; have HT6 := Aside0.mk ht; have HB6 := Aside0.mk (below_step HB.out hb); clear hb ht hge HB HT))
            go_roundg k1
            case measure => omega
            case rel => exact ⟨i + 1, b6, rfl, by first | rfl | (simp; done) | (rw [hwr]; done) | (go_num; done), ⟨by have := HI.out; omega⟩, HT6, HB6, HGO⟩
          | some x =>
            have HA := Aside0.mk ((hag a1).trans hg)
            rw [hg] at hff
            by_cases hx : a3 ≤ x
            · simp only [if_pos hx, Prod.mk.injEq] at hff
              obtain ⟨rfl, rfl⟩ := hff
              clear hag hm hg HF
              go_wp2_with (first
                | (at_lookup; go_loud (refine im_look2 (Value.int .i64) 0 47 rfl rfl rfl Try.underlying89 Try.underlying3 zero3 b t a1 rfl rfl HM.out ?_); rw [HA.out]))
              go_ret2
              exact ⟨rfl, HB.out⟩
            · simp only [if_neg hx] at hff
              have HGO := Aside0.mk (show fewGo l0 a2 a5 l6 a1 a3 k1 (i + 1) (itT l0 a2 a5 l6 (i + 1) [(a2, a4)]) = (r1, r2) from hff)
              clear hag hm hff hg HF
              go_wp2_with (first
                | (at_lookup; go_loud (refine im_look2 (Value.int .i64) 0 47 rfl rfl rfl Try.underlying89 Try.underlying3 zero3 b t a1 rfl rfl HM.out ?_); rw [HA.out])
                  | (go_at_call 53; go_loud (refine (step_calls b _ A0 c0 l0 a2 a5 A6 c6 l6 _ HT.out (Kd.C_below HR0.out HB.out) HC0.out (Kd.C_below HR5.out HB.out) HC5.out HLN.out.2).mono ?_); rintro e w6 ⟨b6, rfl, hge, ht, hb⟩; have HT6 := Aside0.mk ht; have HB6 := Aside0.mk (below_step HB.out hb); clear hb ht hge HB HT))
              go_roundg k1
              case measure => omega
              case rel => exact ⟨i + 1, b6, rfl, by first | rfl | (simp; done) | (rw [hwr]; done) | (go_num; done), ⟨by have := HI.out; omega⟩, HT6, HB6, HGO⟩
    · rw [decide_eq_false hA2] at hask2
      rw [if_pos (Or.inr hA2)] at h
      cases h
      have HAS2 := Aside0.mk hask2
      clear hask2 hA hA2
      go_enter Try.func23, Try.ntmps23
      go_wp2_with (first
        | (go_at_call 52; have hq := HB; clear hq; go_loud (refine (late_asked.calls (l0.length + 2) A0 c0 l0 a1 a3 a5 true _ HR0.out HC0.out HAS1.out).mono ?_); rintro e w1 ⟨rfl, hb⟩; have HB1 := Aside0.mk hb; have HR1 := Aside0.mk (Kd.C_below HR0.out hb); clear hb HB)
        | (go_at_call 52; go_loud (refine (late_asked.calls (l0.length + 2) A0 c0 l0 a2 a4 a5 false _ HR1.out HC0.out HAS2.out).mono ?_); rintro e w1 ⟨rfl, hb⟩; have HB2 := Aside0.mk (below_step HB1.out hb); clear hb HB1 HR1))
      go_ret2
      exact ⟨rfl, HB2.out⟩
  · rw [decide_eq_false hA] at hask1
    rw [if_pos (Or.inl hA)] at h
    cases h
    have HAS1 := Aside0.mk hask1
    clear hask1 hask2 hA
    go_enter Try.func23, Try.ntmps23
    go_wp2_with (first
      | (go_at_call 52; have hq := HB; clear hq; go_loud (refine (late_asked.calls (l0.length + 2) A0 c0 l0 a1 a3 a5 false _ HR0.out HC0.out HAS1.out).mono ?_); rintro e w1 ⟨rfl, hb⟩; have HB1 := Aside0.mk hb; clear hb HB))
    go_ret2
    exact ⟨rfl, HB1.out⟩
end Go.Proofs.Ytijflnpgiegajaa.Q
end
section
namespace Go.Proofs.Ytijflnpgiegajaa.Q
open Go.RowKit Go.Proofs.YtijflnpgiegajaaW.PrintWords Go.Proofs.YtijflnpgiegajaaW.PrintLast Go.Proofs.YtijflnpgiegajaaW.PrintMore Go.Proofs.Ytijflnpgiegajaa.IM
set_option linter.unusedVariables false
set_option linter.unusedSimpArgs false
def Way (l : List S65) (size : Int) (sh : List Int) : List S65 → Int → Int → Int → Prop
  | [], a, _, b => a = b
  | e :: r, a, t, b => e ∈ l ∧ e.f1 = a ∧ e.f2 ∉ sh ∧ PassP e t size ∧ Way l size sh r e.f2 (thereAt e t size) b
def endT (size : Int) : List S65 → Int → Int
  | [], t => t
  | e :: r, t => endT size r (thereAt e t size)
theorem pass_mono {e : S65} {t t' size : Int} (h : PassP e t' size) (h0 : 0 ≤ t) (hle : t ≤ t') : PassP e t size ∧ thereAt e t size ≤ thereAt e t' size := by
  unfold PassP TimeP thereAt at *
  obtain ⟨h1, h2, h3, h4, h5⟩ := h
  exact ⟨⟨by omega, h2, h3, h4, by omega⟩, by omega⟩
theorem there_ge {e : S65} {t size : Int} (h : PassP e t size) : t ≤ thereAt e t size ∧ TimeP (thereAt e t size) := by
  have hb := takes_bd h.2.2.1 h.2.1
  unfold PassP at h
  obtain ⟨h1, h2, h3, h4, h5⟩ := h
  obtain ⟨_, _, _, g3, g4, g6, _, _, _⟩ := h3
  unfold TimeP thereAt at *
  omega
theorem pass_late {e : S65} {t b size : Int} (ht : 0 ≤ t) (hb : TimeP b) : (PassP e t size ∧ thereAt e t size ≤ b) ↔ (LateP e b size ∧ t ≤ lateAt e b size) := by
  constructor
  · rintro ⟨h, hle⟩
    have htb := takes_bd h.2.2.1 h.2.1
    unfold PassP LateP lateAt thereAt TimeP at *
    obtain ⟨h1, h2, h3, h4, h5⟩ := h
    exact ⟨⟨hb, h2, h3, h4, by omega⟩, by omega⟩
  · rintro ⟨h, hle⟩
    have htb := takes_bd h.2.2.1 h.2.1
    unfold PassP LateP lateAt thereAt TimeP at *
    obtain ⟨h1, h2, h3, h4, h5⟩ := h
    obtain ⟨_, _, _, g3, g4, g6, _, _, _⟩ := id h3
    exact ⟨⟨by omega, h2, h3, h4, by omega⟩, by omega⟩
theorem way_mono {l : List S65} {size : Int} {sh : List Int} : ∀ (es : List S65) (a t t' b : Int), 0 ≤ t → t ≤ t' → Way l size sh es a t' b → Way l size sh es a t b ∧ endT size es t ≤ endT size es t'
  | [], a, t, t', b, _, hle, h => ⟨h, hle⟩
  | e :: r, a, t, t', b, h0, hle, h => by
    obtain ⟨h1, h2, h3, h4, h5⟩ := h
    have hp := pass_mono h4 h0 hle
    have hg := there_ge hp.1
    have := way_mono r e.f2 _ _ b (by omega) hp.2 h5
    exact ⟨⟨h1, h2, h3, hp.1, this.1⟩, this.2⟩
theorem endT_ge {l : List S65} {size : Int} {sh : List Int} : ∀ (es : List S65) (a t b : Int), Way l size sh es a t b → t ≤ endT size es t ∧ (TimeP t → TimeP (endT size es t))
  | [], a, t, b, h => ⟨Int.le_refl _, id⟩
  | e :: r, a, t, b, h => by
    obtain ⟨h1, h2, h3, h4, h5⟩ := h
    have hg := there_ge h4
    have := endT_ge r e.f2 _ b h5
    exact ⟨Int.le_trans hg.1 this.1, fun _ => this.2 hg.2⟩
theorem endT_append (size : Int) : ∀ (xs ys : List S65) (t : Int), endT size (xs ++ ys) t = endT size ys (endT size xs t)
  | [], ys, t => rfl
  | e :: r, ys, t => endT_append size r ys _
theorem way_append {l : List S65} {size : Int} {sh : List Int} : ∀ (xs ys : List S65) (a t b : Int), Way l size sh (xs ++ ys) a t b ↔ ∃ m, Way l size sh xs a t m ∧ Way l size sh ys m (endT size xs t) b
  | [], ys, a, t, b => ⟨fun h => ⟨a, rfl, h⟩, fun ⟨m, h1, h2⟩ => by cases h1; exact h2⟩
  | e :: r, ys, a, t, b => by
    simp only [List.cons_append, Way, way_append r ys, endT]
    constructor
    · rintro ⟨h1, h2, h3, h4, m, h5, h6⟩
      exact ⟨m, ⟨h1, h2, h3, h4, h5⟩, h6⟩
    · rintro ⟨m, ⟨h1, h2, h3, h4, h5⟩, h6⟩
      exact ⟨h1, h2, h3, h4, m, h5, h6⟩
theorem way_sub {l l' : List S65} {size : Int} {sh sh' : List Int} : ∀ (es : List S65) (a t b : Int), (∀ e ∈ es, e ∈ l → e.f2 ∉ sh → e ∈ l' ∧ e.f2 ∉ sh') → Way l size sh es a t b → Way l' size sh' es a t b
  | [], a, t, b, _, h => h
  | e :: r, a, t, b, hs, h => by
    obtain ⟨h1, h2, h3, h4, h5⟩ := h
    have := hs e (by simp) h1 h3
    exact ⟨this.1, h2, this.2, h4, way_sub r _ _ b (fun e he => hs e (by simp [he])) h5⟩
theorem way_all {l : List S65} {size : Int} {sh : List Int} : ∀ (es : List S65) (a t b : Int), Way l size sh es a t b → ∀ e ∈ es, e ∈ l ∧ e.f2 ∉ sh ∧ RightE e
  | [], a, t, b, _, e, he => by simp at he
  | x :: r, a, t, b, h, e, he => by
    obtain ⟨h1, h2, h3, h4, h5⟩ := h
    rcases List.mem_cons.1 he with rfl | he
    · exact ⟨h1, h3, h4.2.2.1⟩
    · exact way_all r _ _ b h5 e he
structure EInv (l : List S65) (size : Int) (sh : List Int) (frm now : Int) (out q : List S71) : Prop where
  heap : HeapOrd q
  nod : (out.map (·.f0)).Nodup
  sound : ∀ x, x ∈ out ∨ x ∈ q → ∃ es, Way l size sh es frm now x.f0 ∧ endT size es now = x.f1
  mono : ∀ x ∈ out, ∀ y ∈ q, x.f1 ≤ y.f1
  start : ∃ x, (x ∈ out ∨ x ∈ q) ∧ x.f0 = frm ∧ x.f1 ≤ now
  clos : ∀ x ∈ out, ∀ e ∈ l, e.f1 = x.f0 → e.f2 ∉ sh → PassP e x.f1 size → ∃ y, (y ∈ out ∨ y ∈ q) ∧ y.f0 = e.f2 ∧ y.f1 ≤ thereAt e x.f1 size
def Pushed (size : Int) (sh : List Int) (out : List S71) (r : S71) (es : List S65) (y : S71) : Prop := ∃ e ∈ es, (PassP e r.f1 size ∧ e.f2 ∉ out.map (·.f0) ∧ e.f2 ∉ sh) ∧ y = ⟨e.f2, thereAt e r.f1 size⟩
theorem mem_pushE {size : Int} {sh : List Int} {out : List S71} {r : S71} {q : List S71} {e : S65} {y : S71} : y ∈ pushE size sh out r q e ↔ y ∈ q ∨ ((PassP e r.f1 size ∧ e.f2 ∉ out.map (·.f0) ∧ e.f2 ∉ sh) ∧ y = ⟨e.f2, thereAt e r.f1 size⟩) := by
  unfold pushE
  split
  · rename_i h
    rw [(pushL_perm q _).mem_iff]
    simp [h]
    exact Or.comm
  · rename_i h
    exact ⟨.inl, fun g => g.elim id (fun g => absurd g.1 h)⟩
theorem mem_pushFold {size : Int} {sh : List Int} {out : List S71} {r : S71} {y : S71} : ∀ (es : List S65) (q : List S71), y ∈ es.foldl (pushE size sh out r) q ↔ y ∈ q ∨ Pushed size sh out r es y
  | [], q => by simp [Pushed]
  | e :: es, q => by
    rw [List.foldl_cons, mem_pushFold es, mem_pushE]
    unfold Pushed
    constructor
    · rintro ((h | h) | ⟨e', he, h⟩)
      · exact .inl h
      · exact .inr ⟨e, by simp, h⟩
      · exact .inr ⟨e', by simp [he], h⟩
    · rintro (h | ⟨e', he, h⟩)
      · exact .inl (.inl h)
      · rcases List.mem_cons.1 he with rfl | he
        · exact .inl (.inr h)
        · exact .inr ⟨e', he, h⟩
theorem heap_pushFold {size : Int} {sh : List Int} {out : List S71} {r : S71} : ∀ (es : List S65) (q : List S71), HeapOrd q → HeapOrd (es.foldl (pushE size sh out r) q)
  | [], q, h => h
  | e :: es, q, h => by
    rw [List.foldl_cons]
    refine heap_pushFold es _ ?_
    unfold pushE
    split
    · exact pushL_heap h _
    · exact h
theorem einv_start (l : List S65) (size : Int) (sh : List Int) (frm now : Int) : EInv l size sh frm now [] [⟨frm, now⟩] where
  heap := fun i h0 hi => by simp at hi; omega
  nod := by simp
  sound := fun x hx => by
    simp at hx
    subst hx
    exact ⟨[], rfl, rfl⟩
  mono := fun x hx => by simp at hx
  start := ⟨⟨frm, now⟩, by simp, rfl, Int.le_refl _⟩
  clos := fun x hx => by simp at hx
theorem einv_drop {l : List S65} {size : Int} {sh : List Int} {frm now : Int} {out xs : List S71} {x : S71} (h : EInv l size sh frm now out (x :: xs)) (hx : x.f0 ∈ out.map (·.f0)) : EInv l size sh frm now out (popL (x :: xs)) := by
  have hm : ∀ y, y ∈ popL (x :: xs) ↔ y ∈ xs := fun y => (popL_perm x xs).mem_iff
  obtain ⟨x', hx', he⟩ := List.mem_map.1 hx
  have hle := h.mono x' hx' x (by simp)
  have key : ∀ y, (y ∈ out ∨ y ∈ x :: xs) → ∃ z, (z ∈ out ∨ z ∈ popL (x :: xs)) ∧ z.f0 = y.f0 ∧ z.f1 ≤ y.f1 := by
    rintro y (hy | hy)
    · exact ⟨y, .inl hy, rfl, Int.le_refl _⟩
    · rcases List.mem_cons.1 hy with rfl | hy
      · exact ⟨x', .inl hx', he, hle⟩
      · exact ⟨y, .inr ((hm y).2 hy), rfl, Int.le_refl _⟩
  refine ⟨popL_heap h.heap, h.nod, ?_, ?_, ?_, ?_⟩
  · rintro y (hy | hy)
    · exact h.sound y (.inl hy)
    · exact h.sound y (.inr (by simp [(hm y).1 hy]))
  · intro y hy z hz
    exact h.mono y hy z (by simp [(hm z).1 hz])
  · obtain ⟨y, hy, h1, h2⟩ := h.start
    obtain ⟨z, hz, h3, h4⟩ := key y hy
    exact ⟨z, hz, h3.trans h1, Int.le_trans h4 h2⟩
  · intro y hy e he h1 h2 h3
    obtain ⟨z, hz, h4, h5⟩ := h.clos y hy e he h1 h2 h3
    obtain ⟨u, hu, h6, h7⟩ := key z hz
    exact ⟨u, hu, h6.trans h4, Int.le_trans h7 h5⟩
theorem einv_take {l : List S65} {size : Int} {sh : List Int} {frm now : Int} {out xs : List S71} {x : S71} (h : EInv l size sh frm now out (x :: xs)) (hx : x.f0 ∉ out.map (·.f0)) : EInv l size sh frm now (out ++ [x]) (pushAll l size sh (out ++ [x]) x (popL (x :: xs))) := by
  have hm : ∀ y, y ∈ popL (x :: xs) ↔ y ∈ xs := fun y => (popL_perm x xs).mem_iff
  have hq : ∀ y, y ∈ pushAll l size sh (out ++ [x]) x (popL (x :: xs)) ↔ y ∈ xs ∨ Pushed size sh (out ++ [x]) x (l.filter (fun e => decide (e.f1 = x.f0))) y := fun y => by
    unfold pushAll
    rw [mem_pushFold, hm]
  have key : ∀ y, (y ∈ out ∨ y ∈ x :: xs) → (y ∈ out ++ [x] ∨ y ∈ pushAll l size sh (out ++ [x]) x (popL (x :: xs))) := by
    rintro y (hy | hy)
    · exact .inl (by simp [hy])
    · rcases List.mem_cons.1 hy with rfl | hy
      · exact .inl (by simp)
      · exact .inr ((hq y).2 (.inl hy))
  have hleast : ∀ y ∈ xs, x.f1 ≤ y.f1 := fun y hy => by
    have := pop_least h.heap y hy
    unfold Ahead at this
    omega
  refine ⟨heap_pushFold _ _ (popL_heap h.heap), ?_, ?_, ?_, ?_, ?_⟩
  · rw [List.map_append, List.nodup_append]
    refine ⟨h.nod, by simp, ?_⟩
    intro a ha b hb
    simp at hb
    subst hb
    exact fun e => hx (e ▸ ha)
  · rintro y (hy | hy)
    · rcases List.mem_append.1 hy with hy | hy
      · exact h.sound y (.inl hy)
      · simp at hy
        subst hy
        exact h.sound y (.inr (by simp))
    · rcases (hq y).1 hy with hy | ⟨e, he, ⟨h1, h2, h3⟩, rfl⟩
      · exact h.sound y (.inr (by simp [hy]))
      · obtain ⟨es, hw, ht⟩ := h.sound x (.inr (by simp))
        rw [List.mem_filter, decide_eq_true_eq] at he
        refine ⟨es ++ [e], (way_append _ _ _ _ _).2 ⟨x.f0, hw, ?_⟩, ?_⟩
        · rw [ht]
          exact ⟨he.1, he.2, h3, h1, rfl⟩
        · rw [endT_append, ht]
          rfl
  · intro y hy z hz
    rcases (hq z).1 hz with hzz | ⟨e, he, ⟨h1, h2, h3⟩, rfl⟩
    · rcases List.mem_append.1 hy with hy | hy
      · exact h.mono y hy z (by simp [hzz])
      · simp at hy
        subst hy
        exact hleast z hzz
    · have hg := there_ge h1
      rcases List.mem_append.1 hy with hy | hy
      · exact Int.le_trans (h.mono y hy x (by simp)) hg.1
      · simp at hy
        subst hy
        exact hg.1
  · obtain ⟨y, hy, h1, h2⟩ := h.start
    exact ⟨y, key y hy, h1, h2⟩
  · intro y hy e he h1 h2 h3
    rcases List.mem_append.1 hy with hy | hy
    · obtain ⟨z, hz, h4⟩ := h.clos y hy e he h1 h2 h3
      exact ⟨z, key z hz, h4⟩
    · simp at hy
      subst hy
      by_cases ho : e.f2 ∈ (out ++ [y]).map (·.f0)
      · obtain ⟨z, hz, h4⟩ := List.mem_map.1 ho
        refine ⟨z, .inl hz, h4, ?_⟩
        have hg := there_ge h3
        rcases List.mem_append.1 hz with hz | hz
        · exact Int.le_trans (h.mono z hz y (by simp)) hg.1
        · simp at hz
          subst hz
          exact hg.1
      · exact ⟨⟨e.f2, thereAt e y.f1 size⟩, .inr ((hq _).2 (.inr ⟨e, List.mem_filter.2 ⟨he, by simp [h1]⟩, ⟨h3, ho, h2⟩, rfl⟩)), rfl, Int.le_refl _⟩
theorem einv_go {l : List S65} {size : Int} {sh : List Int} {frm now : Int} : ∀ (n : Nat) (out q r : List S71), EInv l size sh frm now out q → earlyGo l size sh n out q = some r → EInv l size sh frm now r []
  | 0, out, q, r, _, h => by simp [earlyGo] at h
  | n + 1, out, q, r, hI, h => by
    unfold earlyGo at h
    split at h
    case isFalse => exact absurd h (by simp)
    cases q with
    | nil =>
      injection h with h
      subst h
      exact hI
    | cons x xs =>
      simp only at h
      split at h
      · rename_i hx
        exact einv_go n _ _ r (einv_drop hI hx) h
      · rename_i hx
        exact einv_go n _ _ r (einv_take hI hx) h
theorem earlyGo_len {l : List S65} {size : Int} {sh : List Int} : ∀ (n : Nat) (out q r : List S71), earlyGo l size sh n out q = some r → r.length ≤ out.length + n
  | 0, out, q, r, h => by simp [earlyGo] at h
  | n + 1, out, q, r, h => by
    unfold earlyGo at h
    split at h
    case isFalse => exact absurd h (by simp)
    cases q with
    | nil =>
      injection h with h
      subst h
      omega
    | cons x xs =>
      simp only at h
      split at h
      · have := earlyGo_len n _ _ r h
        omega
      · have := earlyGo_len n _ _ r h
        simp at this
        omega
theorem early_all {l : List S65} {size : Int} {sh : List Int} {frm now : Int} {r : List S71} (h0 : 0 ≤ now) (hI : EInv l size sh frm now r []) : ∀ (es : List S65) (a t b : Int), (∃ x ∈ r, x.f0 = a ∧ x.f1 ≤ t) → Way l size sh es a t b → ∃ x ∈ r, x.f0 = b ∧ x.f1 ≤ endT size es t
  | [], a, t, b, hx, h => by cases h; exact hx
  | e :: es, a, t, b, ⟨x, hx, ha, ht⟩, h => by
    obtain ⟨h1, h2, h3, h4, h5⟩ := h
    have hx0 : 0 ≤ x.f1 := by
      obtain ⟨es', hw, he⟩ := hI.sound x (.inl hx)
      have := (endT_ge es' _ _ _ hw).1
      omega
    have hp := pass_mono h4 hx0 ht
    obtain ⟨y, hy, h6, h7⟩ := hI.clos x hx e h1 (h2.trans ha.symm) h3 hp.1
    refine early_all h0 hI es e.f2 _ b ⟨y, by simpa using hy, h6, Int.le_trans h7 hp.2⟩ h5
theorem atT_mem {l : List S71} (hn : (l.map (·.f0)).Nodup) (n x : Int) : atT l n = some x ↔ ∃ y ∈ l, y.f0 = n ∧ y.f1 = x := by
  induction l with
  | nil => simp [atT]
  | cons a r ih =>
    simp only [List.map_cons, List.nodup_cons] at hn
    simp only [atT]
    by_cases h : a.f0 = n
    · rw [if_pos h]
      constructor
      · intro g
        exact ⟨a, by simp, h, by injection g⟩
      · rintro ⟨y, hy, h1, h2⟩
        rcases List.mem_cons.1 hy with rfl | hy
        · rw [h2]
        · exact absurd (List.mem_map.2 ⟨y, hy, h1.trans h.symm⟩) hn.1
    · rw [if_neg h, ih hn.2]
      constructor
      · rintro ⟨y, hy, h1⟩
        exact ⟨y, by simp [hy], h1⟩
      · rintro ⟨y, hy, h1, h2⟩
        rcases List.mem_cons.1 hy with rfl | hy
        · exact absurd h1 h
        · exact ⟨y, hy, h1, h2⟩
def Earliest (l : List S65) (size : Int) (sh : List Int) (frm now n x : Int) : Prop := (∃ es, Way l size sh es frm now n ∧ endT size es now = x) ∧ ∀ es, Way l size sh es frm now n → x ≤ endT size es now
theorem early_ok {l : List S65} {frm now size : Int} {sh : List Int} (hl : l.length ≤ 1000000) (hs : sh.length ≤ 1000000) : ∃ r, early_Times.f l frm now size sh = some r ∧ r.length ≤ l.length + 2 ∧ (Asked l frm now size → (∀ n x, atT r n = some x ↔ Earliest l size sh frm now n x) ∧ ∀ es n, Way l size sh es frm now n → ∃ x, atT r n = some x ∧ x ≤ endT size es now) ∧ (¬ Asked l frm now size → r = []) := by
  unfold early_Times.f
  rw [if_pos ⟨hl, hs⟩]
  by_cases hA : Asked l frm now size
  · rw [if_pos hA]
    have hr : (restE l ([] : List S71)).length ≤ l.length := List.length_filter_le _ _
    obtain ⟨r, hr⟩ := earlyGo_some l hl size sh (l.length + 2) [] [⟨frm, now⟩] (by simp; omega) (by simp; omega) (by simp; omega)
    have hI := einv_go _ _ _ r (einv_start l size sh frm now) hr
    have hlen : r.length ≤ l.length + 2 := by have := earlyGo_len _ _ _ _ hr; simpa using this
    refine ⟨sortR r, by rw [hr]; rfl, by rw [(sortR_perm r).length_eq]; exact hlen, fun _ => ?_, fun h => absurd hA h⟩
    have hn : ((sortR r).map (·.f0)).Nodup := (((sortR_perm r).map (·.f0)).nodup_iff).2 hI.nod
    have h0 : 0 ≤ now := hA.2.1.1
    have hall : ∀ es n, Way l size sh es frm now n → ∃ x ∈ r, x.f0 = n ∧ x.f1 ≤ endT size es now := fun es n hw => by
      obtain ⟨x, hx, h1, h2⟩ := hI.start
      exact early_all h0 hI es frm now n ⟨x, by simpa using hx, h1, h2⟩ hw
    have hone : ∀ y ∈ r, ∀ z ∈ r, y.f0 = z.f0 → y.f1 = z.f1 := fun y hy z hz e => by
      have h1 := (atT_mem hI.nod y.f0 y.f1).2 ⟨y, hy, rfl, rfl⟩
      have h2 := (atT_mem hI.nod y.f0 z.f1).2 ⟨z, hz, e.symm, rfl⟩
      rw [h1] at h2
      injection h2
    refine ⟨?_, fun es n hw => ?_⟩
    rotate_left
    · obtain ⟨y, hy, h1, h2⟩ := hall es n hw
      exact ⟨y.f1, (atT_mem hn _ _).2 ⟨y, (sortR_perm r).mem_iff.2 hy, h1, rfl⟩, h2⟩
    intro n x
    rw [atT_mem hn]
    simp only [(sortR_perm r).mem_iff]
    constructor
    · rintro ⟨y, hy, rfl, rfl⟩
      refine ⟨hI.sound y (.inl hy), fun es hw => ?_⟩
      obtain ⟨z, hz, h1, h2⟩ := hall es _ hw
      rw [hone y hy z hz h1.symm]
      exact h2
    · rintro ⟨⟨es, hw, he⟩, hle⟩
      obtain ⟨y, hy, h1, h2⟩ := hall es n hw
      refine ⟨y, hy, h1, ?_⟩
      obtain ⟨es', hw', he'⟩ := hI.sound y (.inl hy)
      rw [h1] at hw'
      have := hle es' hw'
      omega
  · rw [if_neg hA]
    exact ⟨[], rfl, by simp, fun h => absurd h hA, fun _ => rfl⟩
end Go.Proofs.Ytijflnpgiegajaa.Q
end
section
namespace Go.Proofs.Ytijflnpgiegajaa.Q
open Go.RowKit Go.Proofs.YtijflnpgiegajaaW.PrintWords Go.Proofs.YtijflnpgiegajaaW.PrintLast Go.Proofs.YtijflnpgiegajaaW.PrintMore Go.Proofs.Ytijflnpgiegajaa.IM
set_option linter.unusedVariables false
set_option linter.unusedSimpArgs false
def shE (sh : List Int) (dst : Int) : List Int := sh.filter (fun x => decide (x ≠ dst))
theorem mem_shE {sh : List Int} {dst x : Int} : x ∈ shE sh dst ↔ x ∈ sh ∧ x ≠ dst := by
  unfold shE
  rw [List.mem_filter, decide_eq_true_eq]
def Told (T : List (Int × Int)) (n t : Int) : Prop := ∃ x, aget T n = some x ∧ t ≤ x
theorem told_later (m : List (Int × Int)) (k y n t : Int) : Told (laterM m k y) n t ↔ Told m n t ∨ (k = n ∧ t ≤ y) := by
  unfold laterM Told
  cases h : aget m k with
  | none =>
    simp only [aget_aset]
    by_cases e : k = n
    · subst e
      rw [if_pos rfl, h]
      simp
    · rw [if_neg e]
      simp [e]
  | some had =>
    simp only
    split
    · simp only [aget_aset]
      by_cases e : k = n
      · subst e
        rw [if_pos rfl, h]
        simp
        omega
      · rw [if_neg e]
        simp [e]
    · by_cases e : k = n
      · subst e
        rw [h]
        simp
        omega
      · simp [e]
def PartE (T : List (Int × Int)) (dst size : Int) (sh : List Int) (n t : Int) (e : S65) : Prop := e.f1 = n ∧ e.f1 ≠ dst ∧ e.f2 ∉ shE sh dst ∧ ∃ b, aget T e.f2 = some b ∧ LateP e b size ∧ t ≤ lateAt e b size
theorem told_stepE (T : List (Int × Int)) (dst size : Int) (sh : List Int) (m : List (Int × Int)) (e : S65) (n t : Int) : Told (stepE T dst size sh m e) n t ↔ Told m n t ∨ PartE T dst size sh n t e := by
  unfold stepE PartE
  cases h : aget T e.f2 with
  | none => simp
  | some b =>
    simp only
    have hs : e.f2 ∉ shE sh dst ↔ ¬ (e.f2 ≠ dst ∧ e.f2 ∈ sh) := by
      rw [mem_shE]
      exact ⟨fun g q => g ⟨q.2, q.1⟩, fun g q => g ⟨q.2, q.1⟩⟩
    rw [hs]
    split
    · rename_i hc
      constructor
      · exact .inl
      · rintro (g | ⟨_, h1, h2, _⟩)
        · exact g
        · exact absurd hc (fun q => q.elim h1 h2)
    · rename_i hc
      split
      · rename_i hl
        rw [told_later]
        constructor
        · rintro (g | ⟨h1, h2⟩)
          · exact .inl g
          · exact .inr ⟨h1, fun q => hc (.inl q), fun q => hc (.inr q), b, rfl, hl, h2⟩
        · rintro (g | ⟨h1, _, _, b', hb, hl', h2⟩)
          · exact .inl g
          · injection hb with hb
            subst hb
            exact .inr ⟨h1, h2⟩
      · rename_i hl
        constructor
        · exact .inl
        · rintro (g | ⟨_, _, _, b', hb, hl', _⟩)
          · exact g
          · injection hb with hb
            subst hb
            exact absurd hl' hl
theorem told_fold (T : List (Int × Int)) (dst size : Int) (sh : List Int) (n t : Int) : ∀ (es : List S65) (m : List (Int × Int)), Told (es.foldl (stepE T dst size sh) m) n t ↔ Told m n t ∨ ∃ e ∈ es, PartE T dst size sh n t e
  | [], m => by simp
  | e :: es, m => by
    rw [List.foldl_cons, told_fold T dst size sh n t es, told_stepE]
    simp only [List.mem_cons, exists_eq_or_imp]
    exact or_assoc
theorem aget_later_ne (m : List (Int × Int)) (k y n : Int) (h : k ≠ n) : aget (laterM m k y) n = aget m n := by
  unfold laterM
  cases aget m k with
  | none => rw [aget_aset, if_neg h]
  | some had =>
    simp only
    split
    · rw [aget_aset, if_neg h]
    · rfl
theorem aget_stepE_dst (T : List (Int × Int)) (dst size : Int) (sh : List Int) (m : List (Int × Int)) (e : S65) : aget (stepE T dst size sh m e) dst = aget m dst := by
  unfold stepE
  split
  · rfl
  · split
    · rfl
    · rename_i hc
      split
      · exact aget_later_ne _ _ _ _ (fun q => hc (.inl q))
      · rfl
theorem aget_fold_dst (T : List (Int × Int)) (dst size : Int) (sh : List Int) : ∀ (es : List S65) (m : List (Int × Int)), aget (es.foldl (stepE T dst size sh) m) dst = aget m dst
  | [], m => rfl
  | e :: es, m => by rw [List.foldl_cons, aget_fold_dst T dst size sh es, aget_stepE_dst]
def TimesP (m : List (Int × Int)) : Prop := ∀ n x, aget m n = some x → TimeP x
theorem times_later {m : List (Int × Int)} (h : TimesP m) (k : Int) {y : Int} (hy : TimeP y) : TimesP (laterM m k y) := fun n x hx => by
  unfold laterM at hx
  cases hq : aget m k with
  | none =>
    rw [hq] at hx
    simp only [aget_aset] at hx
    split at hx
    · injection hx with hx; exact hx ▸ hy
    · exact h n x hx
  | some had =>
    rw [hq] at hx
    simp only at hx
    split at hx
    · rw [aget_aset] at hx
      split at hx
      · injection hx with hx; exact hx ▸ hy
      · exact h n x hx
    · exact h n x hx
theorem lateAt_time {e : S65} {b size : Int} (h : LateP e b size) : TimeP (lateAt e b size) := by
  have htb := takes_bd h.2.2.1 h.2.1
  unfold LateP lateAt TimeP at *
  obtain ⟨h1, h2, h3, h4, h5⟩ := h
  obtain ⟨_, _, _, g3, g4, g6, _, _, _⟩ := id h3
  omega
theorem times_fold {T : List (Int × Int)} (dst size : Int) (sh : List Int) : ∀ (es : List S65) (m : List (Int × Int)), TimesP m → TimesP (es.foldl (stepE T dst size sh) m)
  | [], m, h => h
  | e :: es, m, h => by
    rw [List.foldl_cons]
    refine times_fold dst size sh es _ ?_
    unfold stepE
    split
    · exact h
    · split
      · exact h
      · split
        · rename_i hl
          exact times_later h _ (lateAt_time hl)
        · exact h
def Reach (l : List S65) (size : Int) (sh : List Int) (dst b : Int) (h : Nat) (n t : Int) : Prop := ∃ es, es.length ≤ h ∧ Way l size (shE sh dst) es n t dst ∧ endT size es t ≤ b
theorem late_inv {l : List S65} {size : Int} {sh : List Int} {dst b : Int} (hb : TimeP b) : ∀ h : Nat, aget (itT l dst size sh h [(dst, b)]) dst = some b ∧ TimesP (itT l dst size sh h [(dst, b)]) ∧ ∀ n t, 0 ≤ t → (Told (itT l dst size sh h [(dst, b)]) n t ↔ Reach l size sh dst b h n t)
  | 0 => by
    refine ⟨by simp [itT, aget], ?_, ?_⟩
    · intro n x hx
      simp only [itT, aget] at hx
      split at hx
      · injection hx with hx; exact hx ▸ hb
      · exact absurd hx (by simp)
    · intro n t ht
      simp only [itT, Told, aget]
      constructor
      · rintro ⟨x, hx, hle⟩
        split at hx
        · rename_i he
          injection hx with hx
          subst hx
          exact ⟨[], by simp, he.symm, hle⟩
        · exact absurd hx (by simp)
      · rintro ⟨es, hl, hw, he⟩
        cases es with
        | nil =>
          cases hw
          exact ⟨b, by simp, he⟩
        | cons e r => simp at hl
  | h + 1 => by
    obtain ⟨h1, h2, h3⟩ := late_inv (l := l) (size := size) (sh := sh) (dst := dst) hb h
    have hd : aget (itT l dst size sh (h + 1) [(dst, b)]) dst = some b := by
      show aget (stepT l dst size sh _) dst = _
      unfold stepT
      rw [aget_fold_dst, h1]
    refine ⟨hd, times_fold dst size sh l _ h2, fun n t ht => ?_⟩
    by_cases hn : n = dst
    · subst hn
      unfold Told
      rw [hd]
      constructor
      · rintro ⟨x, hx, hle⟩
        injection hx with hx
        subst hx
        exact ⟨[], by simp, rfl, hle⟩
      · rintro ⟨es, _, hw, he⟩
        exact ⟨b, rfl, Int.le_trans (endT_ge es _ _ _ hw).1 he⟩
    · show Told (stepT l dst size sh _) n t ↔ _
      unfold stepT
      rw [told_fold, h3 n t ht]
      constructor
      · rintro (⟨es, hl, hw, he⟩ | ⟨e, hel, he1, _, he2, b', hb', hlp, hle⟩)
        · exact ⟨es, by omega, hw, he⟩
        · have hp := (pass_late ht (h2 _ _ hb')).2 ⟨hlp, hle⟩
          have hg := there_ge hp.1
          obtain ⟨es, hl, hw, he⟩ := (h3 e.f2 _ (by omega)).1 ⟨b', hb', hp.2⟩
          exact ⟨e :: es, by simp; omega, ⟨hel, he1, he2, hp.1, hw⟩, he⟩
      · rintro ⟨es, hl, hw, he⟩
        cases es with
        | nil => exact absurd hw hn
        | cons e r =>
          obtain ⟨g1, g2, g3, g4, g5⟩ := hw
          have hg := there_ge g4
          obtain ⟨b', hb', hle⟩ := (h3 e.f2 (thereAt e t size) (by omega)).2 ⟨r, by simp at hl; omega, g5, he⟩
          have hq := (pass_late ht (h2 _ _ hb')).1 ⟨g4, hle⟩
          exact .inr ⟨e, g1, g2, by rw [g2]; exact hn, g3, b', hb', hq⟩
theorem few_spec {l : List S65} {size : Int} {sh : List Int} {dst b frm now : Int} (hb : TimeP b) (h0 : 0 ≤ now) : ∀ (k h : Nat), (∀ i, i < h → ¬ Reach l size sh dst b i frm now) →
    (∃ j, j < h + k ∧ Reach l size sh dst b j frm now ∧ (∀ i, i < j → ¬ Reach l size sh dst b i frm now) ∧ fewGo l dst size sh frm now k h (itT l dst size sh h [(dst, b)]) = ((j : Int), true)) ∨
    ((∀ i, i < h + k → ¬ Reach l size sh dst b i frm now) ∧ fewGo l dst size sh frm now k h (itT l dst size sh h [(dst, b)]) = (0, false))
  | 0, h, hn => .inr ⟨hn, rfl⟩
  | k + 1, h, hn => by
    have hi := (late_inv (l := l) (size := size) (sh := sh) (dst := dst) hb h).2.2 frm now h0
    have step : ¬ Reach l size sh dst b h frm now → (∀ i, i < h + 1 → ¬ Reach l size sh dst b i frm now) := fun hr i hi => by
      by_cases e : i = h
      · rw [e]; exact hr
      · exact hn i (by omega)
    unfold fewGo
    cases hq : aget (itT l dst size sh h [(dst, b)]) frm with
    | none =>
      have hr : ¬ Reach l size sh dst b h frm now := fun g => by
        obtain ⟨x, hx, _⟩ := hi.2 g
        rw [hq] at hx
        exact absurd hx (by simp)
      have ih := few_spec hb h0 k (h + 1) (step hr)
      rw [show h + (k + 1) = h + 1 + k from by omega]
      exact ih
    | some x =>
      simp only
      by_cases hx : now ≤ x
      · rw [if_pos hx]
        exact .inl ⟨h, by omega, hi.1 ⟨x, hq, hx⟩, hn, rfl⟩
      · rw [if_neg hx]
        have hr : ¬ Reach l size sh dst b h frm now := fun g => by
          obtain ⟨y, hy, hle⟩ := hi.2 g
          rw [hq] at hy
          injection hy with hy
          omega
        have ih := few_spec hb h0 k (h + 1) (step hr)
        rw [show h + (k + 1) = h + 1 + k from by omega]
        exact ih
theorem way_from {l : List S65} {size : Int} {sh : List Int} (n : Int) : ∀ (es : List S65) (a t b : Int), Way l size sh es a t b → n ∈ a :: es.map (·.f2) → ∃ xs zs, es = xs ++ zs ∧ Way l size sh xs a t n ∧ Way l size sh zs n (endT size xs t) b
  | [], a, t, b, h, hn => by
    simp at hn
    subst hn
    exact ⟨[], [], rfl, rfl, h⟩
  | e :: r, a, t, b, h, hn => by
    rcases List.mem_cons.1 hn with rfl | hn
    · exact ⟨[], e :: r, rfl, rfl, h⟩
    · obtain ⟨h1, h2, h3, h4, h5⟩ := h
      obtain ⟨xs, zs, he, hx, hz⟩ := way_from n r e.f2 _ b h5 (by simpa using hn)
      exact ⟨e :: xs, zs, by rw [he]; rfl, ⟨h1, h2, h3, h4, hx⟩, hz⟩
theorem way_last {l : List S65} {size : Int} {sh : List Int} : ∀ (es : List S65) (a t b : Int), Way l size sh es a t b → (a :: es.map (·.f2)).getLast? = some b
  | [], a, t, b, h => by cases h; rfl
  | e :: r, a, t, b, h => by
    have := way_last r e.f2 _ b h.2.2.2.2
    rw [List.map_cons, List.getLast?_cons_cons]
    exact this
theorem way_simple {l : List S65} {size : Int} {sh : List Int} : ∀ (es : List S65) (a t b : Int), 0 ≤ t → Way l size sh es a t b → ∃ es', es'.length ≤ es.length ∧ Way l size sh es' a t b ∧ endT size es' t ≤ endT size es t ∧ (a :: es'.map (·.f2)).Nodup ∧ (es' = es ∨ es'.length < es.length)
  | [], a, t, b, _, h => ⟨[], Nat.le_refl _, h, Int.le_refl _, by simp, .inl rfl⟩
  | e :: r, a, t, b, h0, h => by
    obtain ⟨h1, h2, h3, h4, h5⟩ := h
    have hg := there_ge h4
    obtain ⟨r', hl, hw, he, hn, hq⟩ := way_simple r e.f2 _ b (by omega) h5
    by_cases ha : a ∈ e.f2 :: r'.map (·.f2)
    · obtain ⟨xs, zs, hz, hx, hzw⟩ := way_from a r' e.f2 _ b hw ha
      have hxe := (endT_ge xs _ _ _ hx).1
      have hm := way_mono zs a t _ b h0 (Int.le_trans hg.1 hxe) hzw
      have hlast := way_last xs _ _ _ hx
      refine ⟨zs, by rw [hz] at hl; simp at hl ⊢; omega, hm.1, ?_, ?_, .inr (by rw [hz] at hl; simp at hl ⊢; omega)⟩
      · refine Int.le_trans hm.2 ?_
        rw [← endT_append, ← hz]
        exact he
      · have hsp : e.f2 :: r'.map (·.f2) = (e.f2 :: xs.map (·.f2)) ++ zs.map (·.f2) := by rw [hz]; simp
        rw [hsp] at hn
        have hd : e.f2 :: xs.map (·.f2) = (e.f2 :: xs.map (·.f2)).dropLast ++ [a] := by
          have h9 := List.dropLast_concat_getLast (l := e.f2 :: xs.map (·.f2)) (by simp)
          rw [List.getLast?_eq_some_getLast (by simp)] at hlast
          injection hlast with hlast
          rw [hlast] at h9
          exact h9.symm
        rw [hd, List.append_assoc] at hn
        exact (List.nodup_append.1 hn).2.1
    · exact ⟨e :: r', by simp; exact hl, ⟨h1, h2, h3, h4, hw⟩, he, by rw [List.map_cons, List.nodup_cons]; exact ⟨ha, hn⟩, hq.elim (fun q => .inl (by rw [q])) (fun q => .inr (by simp; exact q))⟩
theorem nodup_le : ∀ (es l : List Int), es.Nodup → (∀ e ∈ es, e ∈ l) → es.length ≤ l.length
  | [], l, _, _ => Nat.zero_le _
  | e :: es, l, hn, hs => by
    rw [List.nodup_cons] at hn
    have hl := List.length_erase_of_mem (hs e (by simp))
    have hp := List.length_pos_of_mem (hs e (by simp))
    have := nodup_le es (l.erase e) hn.2 (fun x hx => (List.mem_erase_of_ne (fun q => hn.1 (by rw [← q]; exact hx))).2 (hs x (by simp [hx])))
    simp
    omega
theorem way_starts {l : List S65} {size : Int} {sh : List Int} : ∀ (es : List S65) (a t b : Int), Way l size sh es a t b → es.map (·.f1) = (a :: es.map (·.f2)).dropLast
  | [], a, t, b, _ => rfl
  | e :: r, a, t, b, h => by
    rw [List.map_cons, List.map_cons, List.dropLast_cons_cons, way_starts r e.f2 _ b h.2.2.2.2, h.2.1]
theorem way_short {l : List S65} {size : Int} {sh : List Int} {es : List S65} {a t b : Int} (h : Way l size sh es a t b) (hn : (a :: es.map (·.f2)).Nodup) : es.length ≤ l.length := by
  have h1 : (es.map (·.f1)).Nodup := by
    rw [way_starts es a t b h]
    exact hn.sublist (List.dropLast_sublist _)
  have := nodup_le (es.map (·.f1)) (l.map (·.f1)) h1 (fun x hx => by
    obtain ⟨e, he, rfl⟩ := List.mem_map.1 hx
    exact List.mem_map.2 ⟨e, (way_all es _ _ _ h e he).1, rfl⟩)
  simpa using this
end Go.Proofs.Ytijflnpgiegajaa.Q
end
section
namespace Go.Proofs.Ytijflnpgiegajaa.Q
open Go.RowKit Go.Proofs.YtijflnpgiegajaaW.PrintWords Go.Proofs.YtijflnpgiegajaaW.PrintLast Go.Proofs.YtijflnpgiegajaaW.PrintMore Go.Proofs.Ytijflnpgiegajaa.IM Go.Proofs.Ytijflnpgiegajaa.Ev
set_option linter.unusedVariables false
theorem Kp.o {w w' : World} {b g : Nat} (h : Kp w w' b g) : KpO w w' b (some g) := ⟨h.os, h.tape, h.output, h.size, fun k hk h1 h2 => h.block k hk h1 (fun e => h2 (by rw [e]))⟩
theorem KpO.below_of {w0 w w' : World} {b : Nat} {o : Option Nat} (h : KpO w w' b o) (hB : Below w0.heap.size w0 w) (h1 : w0.heap.size ≤ b) (h2 : ∀ g, o = some g → w0.heap.size ≤ g) : Below w0.heap.size w0 w' :=
  ⟨h.os.trans hB.os, h.tape.trans hB.tape, h.output.trans hB.output, Nat.le_trans hB.size h.size, fun k hk => (h.block k (Nat.lt_of_lt_of_le hk hB.size) (by omega) (fun e => by have := h2 k e.symm; omega)).trans (hB.block k hk)⟩
theorem KpO.imap {w w' : World} {b bm : Nat} {o : Option Nat} {m : List (Int × Value)} (h : KpO w w' b o) (H : IMap w bm m) (h1 : bm ≠ b) (h2 : some bm ≠ o) : IMap w' bm m := by
  obtain ⟨es, clk, hb, r⟩ := H
  exact ⟨es, clk, (h.block bm (Array.getElem?_eq_some_iff.1 hb).1 h1 h2).trans hb, r⟩
theorem KpO.R {α : Type} {d : Kd α} {e base b : Nat} {ok : Nat → Prop} {v : Value} {xs : List α} {w w' : World} {o : Option Nat} (h : KpO w w' b o) (hE : d.E = []) (H : d.R e w base ok v xs) (h1 : some b ≠ v.ownBlock) (h2 : ∀ g, o = some g → some g ≠ v.ownBlock) : d.R e w' base ok v xs :=
  Kd.R_mono (Kd.R_step (Kd.R_tight hE H) (fun k hk hlt => h.block k hlt (fun e => h1 (by rw [← e]; exact hk)) (fun e => h2 k e.symm hk))) (fun k hk => H.1 k hk.symm)
end Go.Proofs.Ytijflnpgiegajaa.Q
end
section
namespace Go.Proofs.Ytijflnpgiegajaa.Q
open Go.RowKit Go.Proofs.YtijflnpgiegajaaW.PrintWords Go.Proofs.YtijflnpgiegajaaW.PrintLast Go.Proofs.YtijflnpgiegajaaW.PrintMore Go.Proofs.Ytijflnpgiegajaa.IM Go.Proofs.Ytijflnpgiegajaa.Ev
set_option linter.unusedVariables false
set_option linter.unusedSimpArgs false
structure ESt (w0 w : World) (hq g cap bm bc : Nat) (v10 : Value) (out q : List S71) (t : List (Int × Int)) (m : List (Int × Bool)) : Prop where
  O : Kd.R k71 71 w w0.heap.size (fun _ => True) v10 out
  Q : HeapW w w0.heap.size hq g cap q
  D : some g ≠ v10.ownBlock
  M : IMap w bm (t.map fun p => (p.1, Value.int .i64 p.2))
  C : IMap w bc (m.map fun p => (p.1, Value.bool p.2))
  B : Below w0.heap.size w0 w
  H : w0.heap.size ≤ hq
  BM : w0.heap.size ≤ bm
  NM : bc ≠ bm
structure EX (w : World) (hq g : Nat) (v10 : Value) (gr : Nat) (x : S71) : Prop where
  G : w.heap[gr]? = some (.cells #[.int .i64 x.f0, .int .i64 x.f1] 71 (0, 0))
  GH : gr ≠ hq
  GG : gr ≠ g
  GO : some gr ≠ v10.ownBlock
structure EE (w : World) (b hq g : Nat) (ve : Value) (es : List S65) : Prop where
  E : Kd.R k65 65 w b (fun _ => True) ve es
  EG : some g ≠ ve.ownBlock
section
variable {w0 w w' : World} {hq g cap bm bc : Nat} {v10 : Value} {out q : List S71} {t : List (Int × Int)} {m : List (Int × Bool)} {gr : Nat} {x : S71} {ve : Value} {es : List S65} {b : Nat}
theorem ESt.g0 (h : ESt w0 w hq g cap bm bc v10 out q t m) : w0.heap.size ≤ g := Kd.R_base h.Q.row g rfl
theorem ESt.ho (h : ESt w0 w hq g cap bm bc v10 out q t m) : some hq ≠ v10.ownBlock := Kd.R_ne h.O h.Q.hdr (by decide)
theorem ESt.mh (h : ESt w0 w hq g cap bm bc v10 out q t m) : bm ≠ hq := imap_ne_blk h.M h.Q.hdr
theorem ESt.ch (h : ESt w0 w hq g cap bm bc v10 out q t m) : bc ≠ hq := imap_ne_blk h.C h.Q.hdr
theorem ESt.mg (h : ESt w0 w hq g cap bm bc v10 out q t m) : some bm ≠ some g := imap_ne h.M h.Q.row
theorem ESt.cg (h : ESt w0 w hq g cap bm bc v10 out q t m) : some bc ≠ some g := imap_ne h.C h.Q.row
theorem ESt.below (h : ESt w0 w hq g cap bm bc v10 out q t m) (hb : Below w.heap.size w w') : ESt w0 w' hq g cap bm bc v10 out q t m :=
  ⟨Kd.R_below h.O hb, h.Q.below hb, h.D, h.M.below hb, h.C.below hb, below_step h.B hb, h.H, h.BM, h.NM⟩
theorem EX.below (h : EX w hq g v10 gr x) (hb : Below w.heap.size w w') : EX w' hq g v10 gr x := ⟨blk_below h.G hb, h.GH, h.GG, h.GO⟩
theorem EE.below (h : EE w b hq g ve es) (hb : Below w.heap.size w w') : EE w' b hq g ve es := ⟨Kd.R_below h.E hb, h.EG⟩
theorem EX.c0 (h : EX w hq g v10 gr x) : w.cell? ⟨gr, 0, none⟩ = some (.int .i64 x.f0) := (blk_cell h.G 0).trans rfl
theorem EX.c1 (h : EX w hq g v10 gr x) : w.cell? ⟨gr, 1, none⟩ = some (.int .i64 x.f1) := (blk_cell h.G 1).trans rfl
theorem ESt.push {g' cap' : Nat} {q' : List S71} (h : ESt w0 w hq g cap bm bc v10 out q t m) (hk : KpO w w' hq (some g)) (hh : HeapW w' w0.heap.size hq g' cap' q') (ho : some g = some g' ∨ w.heap.size ≤ g') : ESt w0 w' hq g' cap' bm bc v10 out q' t m where
  O := hk.R rfl h.O h.ho (fun k e => by injection e with e; rw [← e]; exact h.D)
  Q := hh
  D := fun e => by
    rcases ho with ho | ho
    · injection ho with ho
      rw [← ho] at e
      exact h.D e
    · have := Kd.R_lt h.O g' e.symm
      omega
  M := hk.imap h.M h.mh h.mg
  C := hk.imap h.C h.ch h.cg
  B := hk.below_of h.B h.H (fun k e => by injection e with e; rw [← e]; exact h.g0)
  H := h.H
  BM := h.BM
  NM := h.NM
theorem EX.push {g' : Nat} (h : EX w hq g v10 gr x) (hk : KpO w w' hq (some g)) (ho : some g = some g' ∨ w.heap.size ≤ g') : EX w' hq g' v10 gr x where
  G := (hk.block gr (Array.getElem?_eq_some_iff.1 h.G).1 h.GH (fun e => by injection e with e; exact h.GG e)).trans h.G
  GH := h.GH
  GG := fun e => by
    rcases ho with ho | ho
    · injection ho with ho
      exact h.GG (e.trans ho.symm)
    · have := (Array.getElem?_eq_some_iff.1 h.G).1
      omega
  GO := h.GO
theorem EE.push {g' : Nat} (h : EE w b hq g ve es) (hH : w.heap[hq]? = some (.cells #[v10] 110 (0, 0))) (hk : KpO w w' hq (some g)) (ho : some g = some g' ∨ w.heap.size ≤ g') : EE w' b hq g' ve es where
  E := hk.R rfl h.E (Kd.R_ne h.E hH (by decide)) (fun k e => by injection e with e; rw [← e]; exact h.EG)
  EG := fun e => by
    rcases ho with ho | ho
    · injection ho with ho
      rw [← ho] at e
      exact h.EG e
    · have := Kd.R_lt h.E g' e.symm
      omega
theorem ESt.store {t' : List (Int × Int)} (h : ESt w0 w hq g cap bm bc v10 out q t m) (hm : IMap w' bm (t'.map fun p => (p.1, Value.int .i64 p.2))) (hg : w.grownBy w' (some bm)) : ESt w0 w' hq g cap bm bc v10 out q t' m where
  O := R_mapstore h.O h.M hg
  Q := ⟨blk_mapstore h.Q.hdr h.M hg, R_mapstore h.Q.row h.M hg⟩
  D := h.D
  M := hm
  C := h.C.kept hg (fun e => by injection e with e; exact h.NM e)
  B := below_grown_one h.B hg h.BM
  H := h.H
  BM := h.BM
  NM := h.NM
theorem EX.store (h : EX w hq g v10 gr x) {mm : List (Int × Value)} (hM : IMap w bm mm) (hg : w.grownBy w' (some bm)) : EX w' hq g v10 gr x := ⟨blk_mapstore h.G hM hg, h.GH, h.GG, h.GO⟩
theorem ESt.app {v4 : Value} (h : ESt w0 w hq g cap bm bc v10 out q t m) (ho : Kd.R k71 71 w' w0.heap.size (fun _ => True) v4 (out ++ [x])) (hb : Below w0.heap.size w0 w') (hg : w.grownBy w' v10.ownBlock) (hat : v4.ownBlock = v10.ownBlock ∨ ∃ k, v4.ownBlock = some k ∧ w.heap.size ≤ k) : ESt w0 w' hq g cap bm bc v4 (out ++ [x]) q t m where
  O := ho
  Q := ⟨blk_grown h.Q.hdr hg h.ho, Kd.R_grown2 h.Q.row rfl hg (fun k hk e => h.D (by rw [hk]; exact e.symm))⟩
  D := fun e => by
    rcases hat with ha | ⟨k, ha, hk⟩
    · exact h.D (e.trans ha)
    · rw [ha] at e
      injection e with e
      have := h.Q.lt.2
      omega
  M := h.M.kept hg (imap_ne h.M h.O)
  C := h.C.kept hg (imap_ne h.C h.O)
  B := hb
  H := h.H
  BM := h.BM
  NM := h.NM
theorem EX.app {v4 : Value} (h : EX w hq g v10 gr x) (hg : w.grownBy w' v10.ownBlock) (hat : v4.ownBlock = v10.ownBlock ∨ ∃ k, v4.ownBlock = some k ∧ w.heap.size ≤ k) : EX w' hq g v4 gr x where
  G := blk_grown h.G hg h.GO
  GH := h.GH
  GG := h.GG
  GO := fun e => by
    rcases hat with ha | ⟨k, ha, hk⟩
    · exact h.GO (e.trans ha)
    · rw [ha] at e
      injection e with e
      have := (Array.getElem?_eq_some_iff.1 h.G).1
      omega
end
end Go.Proofs.Ytijflnpgiegajaa.Q
end
section
namespace Go.Proofs.Ytijflnpgiegajaa.Q
open Go.RowKit Go.Proofs.YtijflnpgiegajaaW.PrintWords Go.Proofs.YtijflnpgiegajaaW.PrintLast Go.Proofs.YtijflnpgiegajaaW.PrintMore Go.Proofs.Ytijflnpgiegajaa.IM Go.Proofs.Ytijflnpgiegajaa.Ev
set_option linter.unusedVariables false
set_option linter.unusedSimpArgs false
def Closed (m : List (Int × Bool)) (s : List Int) : Prop := ∀ n, aget m n = if n ∈ s then some true else none
theorem closed_step {m : List (Int × Bool)} {s : List Int} (h : Closed m s) (x : Int) : Closed (aset m x true) (s ++ [x]) := fun n => by
  rw [aget_aset, h n]
  by_cases he : x = n
  · simp [he]
  · simp [he, show ¬ n = x from fun e => he e.symm]
def Reached (m : List (Int × Int)) (out : List S71) : Prop := ∀ n, (aget m n).isSome = decide (n ∈ out.map (·.f0))
theorem reached_step {m : List (Int × Int)} {out : List S71} (h : Reached m out) (x : S71) : Reached (aset m x.f0 x.f1) (out ++ [x]) := fun n => by
  rw [aget_aset]
  by_cases he : x.f0 = n
  · simp [he]
  · rw [if_neg he, h n]
    simp [show ¬ n = x.f0 from fun e => he e.symm]
theorem zero4e : (Try.prog.info? 4).map (fun i => i.zero) = some (some (.bool false)) := by kernel_rfl
theorem pushE_eq {size : Int} {sh : List Int} {out : List S71} {r : S71} {q : List S71} {e : S65} {okb hadb clb : Bool} {th : Int} (h1 : okb = decide (PassP e r.f1 size)) (h2 : hadb = decide (e.f2 ∈ out.map (·.f0))) (h3 : clb = decide (e.f2 ∈ sh)) (ht : okb = true → th = thereAt e r.f1 size) :
    pushE size sh out r q e = if okb = true ∧ hadb = false ∧ clb = false then pushL q ⟨e.f2, th⟩ else q := by
  unfold pushE
  subst h1 h2 h3
  by_cases a : PassP e r.f1 size
  · rw [ht (decide_eq_true a)]
    simp only [decide_eq_true_eq, decide_eq_false_iff_not]
  · rw [if_neg (fun g => a g.1), if_neg (fun g => a (by simpa using g.1))]
theorem pass_three (e : S65) (t size : Int) : ∃ (sd th : Int) (okb : Bool), hop_Pass.f 1 e.f0 e.f1 e.f2 e.f3 e.f4 e.f5 e.f6 e.f7 t size = some (sd, th, okb) ∧ okb = decide (PassP e t size) ∧ (okb = true → th = thereAt e t size) := by
  have h := hop_Pass_eq 0 e t size
  by_cases a : PassP e t size
  · rw [if_pos a] at h
    exact ⟨_, _, _, h, by simp [a], fun _ => rfl⟩
  · rw [if_neg a] at h
    exact ⟨_, _, _, h, by simp [a], fun q => by simp at q⟩
theorem lit71 {W : World} {g : Nat} {x : S71} (h : W.heap[g]? = some (.cells #[.int .i64 x.f0, .int .i64 x.f1] 71 (0, 0))) : Kd.C k71 W (some ⟨g, 0, none⟩) 1 [x] := by
  refine ⟨rfl, by decide, fun _ => ⟨⟨g, 0, none⟩, rfl, fun j p hj => ?_⟩⟩
  have hj2 : j < 1 := (List.getElem?_eq_some_iff.1 hj).1
  obtain rfl : j = 0 := by omega
  injection hj with hj
  subst hj
  refine ⟨[.int .i64 x.f0, .int .i64 x.f1], rfl, k71_mk W x, fun i u hu => ?_⟩
  have hi : i < 2 := (List.getElem?_eq_some_iff.1 hu).1
  match i, hi with
  | 0, _ => injection hu with hu; subst hu; exact (blk_cell h 0).trans rfl
  | 1, _ => injection hu with hu; subst hu; exact (blk_cell h 1).trans rfl
set_option maxHeartbeats 8000000 in
set_option maxRecDepth 100000 in
theorem early_Times.calls (A0 : Option Addr) (c0 : Nat) (l0 : List (S65)) (a1 : Int) (a2 : Int) (a3 : Int) (A4 : Option Addr) (c4 : Nat) (l4 : List Int) (r : List (S71)) (w : World) (hr0 : Kd.C k65 w A0 l0.length l0) (hc0 : l0.length ≤ c0) (hr4 : Kd.C (Kd.int .i64) w A4 l4.length l4) (hc4 : l4.length ≤ c4) (h : early_Times.f l0 a1 a2 a3 l4 = some r) :
    Calls Try.prog 21 #[.slice A0 l0.length c0, .int .i64 a1, .int .i64 a2, .int .i64 a3, .slice A4 l4.length c4] w fun e w' => ∃ v0_ : Value, e = .returned (v0_) ∧ Kd.R k71 71 w' w.heap.size (fun _ => True) v0_ r ∧ Below w.heap.size w w' := by
  unfold early_Times.f at h
  split at h
  case isFalse => exact absurd h (by simp)
  rename_i hlen
  have hask := early_asked_eq l0 hlen.1 (l0.length + 2) (by omega) a1 a2 a3
  have HR0 := Aside0.mk hr0
  have HC0 := Aside0.mk hc0
  have HR4 := Aside0.mk hr4
  have HC4 := Aside0.mk hc4
  have HLN := Aside0.mk hlen
  have HB := Aside0.mk (Below.refl w.heap.size w)
  clear hr0 hc0 hr4 hc4 hlen
  by_cases hA : Asked l0 a1 a2 a3
  · rw [decide_eq_true hA] at hask
    rw [if_pos hA] at h
    have HAS := Aside0.mk hask
    have HH := Aside0.mk h
    have hl4 := HLN.out.2
    clear hask h hA
    go_enter Try.func21, Try.ntmps21
    go_wp2_with (first
      | (go_at_call 41; go_loud (refine (early_asked.calls (l0.length + 2) A0 c0 l0 a1 a2 a3 true _ HR0.out HC0.out HAS.out).mono ?_); rintro e w1 ⟨rfl, hb⟩; have HB1 := Aside0.mk hb; clear hb HB)
      | ((with_reducible refine gate_dst (N := 33) rfl ?_); go_loud (refine im_make 33 rfl rfl rfl ?_); intro bc w2 hb hm hbw hs; have HC2 := Aside0.mk hm; have HGC := Aside0.mk (show w.heap.size ≤ bc from Nat.le_trans HB1.out.size (Nat.le_of_eq hb.symm)); have HB2 := Aside0.mk (below_step HB1.out hbw); clear hb hm hbw hs HB1))
    go_loopg [13, 36] l4.length (fun kq _ v36 w' => ∃ (i : Nat) (m : List (Int × Bool)), v36 = .int .i64 (i : Int) ∧ Aside0 (i + kq = l4.length) ∧ Aside0 (Closed m (l4.take i)) ∧ Aside0 (IMap w' bc (m.map fun p => (p.1, Value.bool p.2))) ∧ Aside0 (Below w.heap.size w w'))
    case atStart => exact ⟨0, [], rfl, ⟨by omega⟩, ⟨fun n => rfl⟩, HC2, HB2⟩
    case round =>
      clear HC2 HB2
      obtain ⟨i, m, rfl, HI, HM, HC, HB⟩ := hrel
      cases gk with
      | zero =>
        have hi : ¬ ((i : Nat) : Int) < (l4.length : Int) := by have := HI.out; omega
        have HCL := Aside0.mk (show Closed m l4 by have := HM.out; rw [List.take_of_length_le (by have := HI.out; omega)] at this; exact this)
        clear HM HI
        go_wp2_with (first
          | ((with_reducible refine gate_dst (N := 43) rfl ?_); go_loud (refine im_make 43 rfl rfl rfl ?_); intro bm w5 hb hm hbw hs; have HM5 := Aside0.mk hm; have HGM := Aside0.mk (show w.heap.size ≤ bm from Nat.le_trans HB.out.size (Nat.le_of_eq hb.symm)); have HC5 := Aside0.mk (HC.out.below hbw); have HNE := Aside0.mk (show bc ≠ bm from fun e => by have := HC.out.lt; omega); have HB5 := Aside0.mk (below_step HB.out hbw); clear hb hm hbw hs HB HC)
          | (go_at_call 42; go_loud (refine (new_calls ⟨a1, a2⟩ _ 1 _ (lit71 (blk_new _ _))).mono ?_); rintro e w6 ⟨hq, gq, cq, rfl, hh, hbl, hge, hgg⟩; have hb6 : Below w5.heap.size w5 w6 := below_step (below_alloc (Below.refl _ _) _) hbl; have hs5 : w5.heap.size ≤ hq ∧ w5.heap.size ≤ gq := ⟨Nat.le_trans (below_alloc (Below.refl w5.heap.size w5) _).size hge, Nat.le_trans (below_alloc (Below.refl w5.heap.size w5) _).size hgg⟩; have HQ6 := Aside0.mk (show HeapW w6 w.heap.size hq gq cq [⟨a1, a2⟩] from ⟨hh.hdr, Kd.R_lower hh.row (Nat.le_trans HB5.out.size (below_alloc (Below.refl w5.heap.size w5) _).size)⟩); have HS5 := Aside0.mk (Nat.le_trans HB5.out.size hs5.1); have HB6 := Aside0.mk (below_step HB5.out hb6); have HM6 := Aside0.mk (HM5.out.below hb6); have HC6 := Aside0.mk (HC5.out.below hb6); clear hb6 hs5 HB5 HM5 HC5; clear hh hbl hge hgg))
        have hh0 := HH.out
        rw [Option.map_eq_some_iff] at hh0
        obtain ⟨r0, hgo, hr0⟩ := hh0
        have HG0 := Aside0.mk hgo
        have HR0' := Aside0.mk hr0
        clear hgo hr0 HH
        have HST := Aside0.mk (show ESt w w6 hq gq cq bm bc (.slice none 0 0) [] [⟨a1, a2⟩] ([] : List (Int × Int)) m from ⟨Kd.R_nil k71 71 _ _ _, HQ6.out, by simp [Value.ownBlock], HM6.out, HC6.out, HB6.out, HS5.out, HGM.out, HNE.out⟩)
        clear HQ6 HM6 HC6 HB6 HS5 HGM HNE HGC
        go_loopg [10, 16, 17, 18, 19, 21, 22, 23, 24, 25, 26] (l0.length + 2) (fun kq v10 _ _ _ _ _ _ _ _ _ _ w' => ∃ (out q : List S71) (g cap : Nat) (t : List (Int × Int)), Aside0 (earlyGo l0 a3 l4 kq out q = some r0) ∧ Aside0 (ESt w w' hq g cap bm bc v10 out q t m) ∧ Aside0 ((q = [] → out ≠ []) ∧ (out.map (·.f0)).Nodup) ∧ Aside0 (Reached t out))
        case atStart => exact ⟨[], [⟨a1, a2⟩], gq, cq, [], HG0, HST, ⟨⟨fun e => by simp at e, by simp⟩⟩, ⟨fun n => rfl⟩⟩
        case round =>
          clear HG0 HST
          obtain ⟨out, q, g, cap, t, HG, HS, HN, HT⟩ := hrel
          cases gk with
          | zero => exact absurd HG.out (by simp [earlyGo])
          | succ k1 =>
            have hgo := HG.out
            unfold earlyGo at hgo
            split at hgo
            case isFalse => exact absurd hgo (by simp)
            rename_i hbd
            cases q with
            | nil =>
              injection hgo with hgo
              subst hgo
              have HND := Aside0.mk HN.out.2
              have HNE := Aside0.mk (HN.out.1 rfl)
              have HOL := Aside0.mk (show out.length < 4611686018427387904 by have := hbd.1; omega)
              clear HN
              obtain ⟨Ao, co, eo⟩ := Kd.R_slice HS.out.O
              subst eo
              go_wp2_with (first
                | (go_at_call 43; go_loud (refine (len_calls HS.out.Q).mono ?_); rintro e w7 ⟨rfl, hb⟩; have HS7 := Aside0.mk (HS.out.below hb); clear hb HS)
                | (go_at_call 48; go_loud (refine (sort_49 _ out _ w.heap.size (fun _ => True) HS7.out.O HNE.out HOL.out HND.out).mono ?_); rintro e w8 ⟨rfl, ho, hg⟩; have HO8 := Aside0.mk ho; have HB8 := Aside0.mk (HS7.out.B.grown hg HS7.out.B.size (fun k hk => Kd.R_base HS7.out.O k hk)); clear ho hg HS7))
              go_ret
              exact ⟨_, rfl, by rw [← HR0'.out]; exact HO8.out, HB8.out⟩
            | cons x xs =>
              have HBD := Aside0.mk hbd
              have HND := Aside0.mk HN.out.2
              have HXL := Aside0.mk (show (x :: xs).length ≤ 100000000000000 by have := hbd.2; omega)
              have hpos : (0 : Int) < ((x :: xs).length : Int) := by simp
              simp only at hgo
              clear HN hbd
              have hru := HT.out x.f0
              by_cases hx : x.f0 ∈ out.map (·.f0)
              · rw [if_pos hx] at hgo
                rw [decide_eq_true hx] at hru
                have HG1 := Aside0.mk hgo
                have HRU := Aside0.mk hru
                have HNO := Aside0.mk (show (popL (x :: xs) = [] → out ≠ []) ∧ (out.map (·.f0)).Nodup from ⟨fun _ e => by rw [e] at hx; simp at hx, HND.out⟩)
                clear hgo hru hx HG HND
                go_wp2_with (first
                  | (go_at_call 43; go_loud (refine (len_calls HS.out.Q).mono ?_); rintro e w7 ⟨rfl, hb⟩; have HS7 := Aside0.mk (HS.out.below hb); clear hb HS)
                  | (go_at_call 44; go_loud (refine (pop_calls HS7.out.Q HXL.out).mono ?_); rintro e w8 ⟨rfl, hh, hk⟩; have HS8 := Aside0.mk (HS7.out.push hk.o hh (.inl rfl)); clear hh hk HS7)
                  | ((with_reducible refine gate_dst (N := 16) rfl ?_); go_loud (refine box2 16 rfl rfl rfl rfl rfl rfl #[.int .i64 x.f0, .int .i64 x.f1] info71 rfl rfl (by simp [Value.oneCell']) (by first | (go_simp; done) | (go_simp; rfl)) (by first | (go_simp; done) | (go_simp; rfl)) ?_); intro gr w9 hg hblk hbw hs; have HX9 := Aside0.mk (show EX w9 hq g _ gr x from ⟨hblk, fun e => by have := HS8.out.Q.lt.1; omega, fun e => by have := HS8.out.Q.lt.2; omega, R_new_ne HS8.out.O hg⟩); have HS9 := Aside0.mk (HS8.out.below hbw); have y0 := HX9.out.c0; have y1 := HX9.out.c1; clear hg hblk hbw hs HS8)
                  | ((with_reducible refine gate_dst (N := 61) rfl ?_); go_loud (refine im_look2 (Value.int .i64) 0 61 rfl rfl rfl Try.underlying74 Try.underlying3 zero3 bm t x.f0 rfl rfl HS9.out.M ?_); rw [HRU.out]))
                go_roundg k1
                case measure => omega
                case rel => exact ⟨out, _, g, cap, t, HG1, HS9, HNO, HT⟩
              · rw [if_neg hx] at hgo
                rw [decide_eq_false hx] at hru
                have HRU := Aside0.mk hru
                have HNO := Aside0.mk (show (out ++ [x]) ≠ [] ∧ ((out ++ [x]).map (·.f0)).Nodup from ⟨by simp, by rw [List.map_append, List.nodup_append]; exact ⟨HND.out, by simp, fun a ha b hb e => by simp at hb; subst hb; exact hx (e ▸ ha)⟩⟩)
                have HT2 := Aside0.mk (reached_step HT.out x)
                have HLO := Aside0.mk (show (out.length + 1) * 16 ≤ 140737488355328 by have := HBD.out.1; omega)
                obtain ⟨es, Hes⟩ : ∃ es, es = l0.filter (fun e => decide (e.f1 = x.f0)) := ⟨_, rfl⟩
                have HESL := Aside0.mk (show es.length ≤ 1000000 by rw [Hes]; exact Nat.le_trans (List.length_filter_le _ _) HLN.out.1)
                have HG1' := Aside0.mk (show earlyGo l0 a3 l4 k1 (out ++ [x]) (es.foldl (pushE a3 l4 (out ++ [x]) x) (popL (x :: xs))) = some r0 by rw [Hes]; exact hgo)
                have HPL := Aside0.mk (show (popL (x :: xs)).length ≤ 1000001 by have := (popL_perm x xs).length_eq; have := HBD.out.2; simp at this; omega)
                have HVF := Aside0.mk (show view_From.f (l0.length + 1) l0 x.f0 = some es by rw [Hes]; exact view_From_eq l0 HLN.out.1 (l0.length + 1) (Nat.lt_succ_self _) x.f0)
                have hel : es.length ≤ 1000000 := HESL.out
                clear Hes
                clear hgo hru hx HG HND HT
                obtain ⟨Ao, co, eo⟩ := Kd.R_slice HS.out.O
                subst eo
                go_wp2_with (first
                  | (go_at_call 43; go_loud (refine (len_calls HS.out.Q).mono ?_); rintro e w7 ⟨rfl, hb⟩; have HS7 := Aside0.mk (HS.out.below hb); clear hb HS)
                  | (go_at_call 44; go_loud (refine (pop_calls HS7.out.Q HXL.out).mono ?_); rintro e w8 ⟨rfl, hh, hk⟩; have HS8 := Aside0.mk (HS7.out.push hk.o hh (.inl rfl)); clear hh hk HS7)
                  | ((with_reducible refine gate_dst (N := 16) rfl ?_); go_loud (refine box2 16 rfl rfl rfl rfl rfl rfl #[.int .i64 x.f0, .int .i64 x.f1] info71 rfl rfl (by simp [Value.oneCell']) (by first | (go_simp; done) | (go_simp; rfl)) (by first | (go_simp; done) | (go_simp; rfl)) ?_); intro gr w9 hg hblk hbw hs; have HX9 := Aside0.mk (show EX w9 hq g _ gr x from ⟨hblk, fun e => by have := HS8.out.Q.lt.1; omega, fun e => by have := HS8.out.Q.lt.2; omega, R_new_ne HS8.out.O hg⟩); have HS9 := Aside0.mk (HS8.out.below hbw); have y0 := HX9.out.c0; have y1 := HX9.out.c1; clear hg hblk hbw hs HS8)
                  | ((with_reducible refine gate_dst (N := 61) rfl ?_); go_loud (refine im_look2 (Value.int .i64) 0 61 rfl rfl rfl Try.underlying74 Try.underlying3 zero3 bm t x.f0 rfl rfl HS9.out.M ?_); rw [HRU.out])
                  | (at_mapUpdate; go_loud (refine im_store (Value.int .i64) rfl rfl rfl Try.underlying74 Try.underlying3 bm t x.f0 x.f1 rfl rfl rfl HS9.out.M ?_); intro w10 hm10 hg10 hs10; have HX10 := Aside0.mk (HX9.out.store HS9.out.M hg10); have HS10 := Aside0.mk (HS9.out.store hm10 hg10); have z0 := HX10.out.c0; have z1 := HX10.out.c1; clear hm10 hg10 hs10 y0 y1 HX9 HS9)
                  | ((with_reducible refine gate_builtin (b := .append) (xs := #[.tmp 70, .tmp 72]) rfl ?_); at_builtin; go_loud (refine Kd.R_append k71 (w0 := w) (W := w10) w.heap.size rfl (.tmp 70) (.tmp 72) 38 71 (.agg #[.int .i64 0, .int .i64 0]) 16 rfl Try.underlying38 info71 rfl (by decide) (by decide) (.slice Ao out.length co) out x [.int .i64 x.f0, .int .i64 x.f1] (fun _ => True) (fun _ => False) rfl rfl (k71_mkM _ _ _ x) (fun _ hk => hk.elim) (fun _ _ => trivial) HS10.out.O HS10.out.B HS10.out.B.size HLO.out ?_); intro v11 w11 ho11 hb11 hg11 hat11; have HX11 := Aside0.mk (HX10.out.app hg11 hat11); have HS11 := Aside0.mk (HS10.out.app ho11 hb11 hg11 hat11); have u0 := HX11.out.c0; have u1 := HX11.out.c1; clear ho11 hb11 hg11 hat11 z0 z1 HX10 HS10)
                  | (go_at_call 45; go_loud (refine (view_From.calls (l0.length + 1) A0 c0 l0 x.f0 _ _ (Kd.C_below HR0.out HS11.out.B) HC0.out HVF.out).mono ?_); rintro e w12 ⟨ve, rfl, he, hb⟩; obtain ⟨Ae, ce, ee⟩ := Kd.R_slice he; subst ee; have HE12 := Aside0.mk (show EE w12 w.heap.size hq g (.slice Ae es.length ce) es from ⟨Kd.R_lower he HS11.out.B.size, fun e => by have := Kd.R_base he g e.symm; have := HS11.out.Q.lt.2; omega⟩); have HX12 := Aside0.mk (HX11.out.below hb); have HS12 := Aside0.mk (HS11.out.below hb); clear he hb u0 u1 HX11 HS11))
                go_loopg [21, 22, 23, 24, 25, 26, 79] es.length (fun kq _ _ _ _ _ _ v79 w' => ∃ (i g cap : Nat), v79 = .int .i64 (i : Int) ∧ Aside0 (i + kq = es.length) ∧ Aside0 (ESt w w' hq g cap bm bc _ (out ++ [x]) ((es.take i).foldl (pushE a3 l4 (out ++ [x]) x) (popL (x :: xs))) (aset t x.f0 x.f1) m) ∧ Aside0 (EX w' hq g _ gr x) ∧ Aside0 (EE w' w.heap.size hq g (.slice Ae es.length ce) es))
                case atStart => exact ⟨0, g, cap, rfl, ⟨by omega⟩, HS12, HX12, HE12⟩
                case round =>
                  clear HS12 HX12 HE12
                  obtain ⟨i, g, cap, rfl, HI, HS12, HX12, HE12⟩ := hrel
                  cases gk with
                  | zero =>
                    have hi : ¬ ((i : Nat) : Int) < (es.length : Int) := by have := HI.out; omega
                    have HSZ := Aside0.mk (show ESt w _ hq g cap bm bc _ (out ++ [x]) (es.foldl (pushE a3 l4 (out ++ [x]) x) (popL (x :: xs))) (aset t x.f0 x.f1) m by have := HS12.out; rw [List.take_of_length_le (by have := HI.out; omega)] at this; exact this)
                    clear HS12 HI
                    go_wp2
                    go_roundg k1
                    case measure => omega
                    case rel => exact ⟨out ++ [x], _, g, cap, _, HG1', HSZ, ⟨fun _ => HNO.out.1, HNO.out.2⟩, HT2⟩
                  | succ k2 =>
                    have hi : i < es.length := by have := HI.out; omega
                    have p0 : 0 ≤ ((i : Nat) : Int) := by omega
                    have p1 : ((i : Nat) : Int) < (es.length : Int) := by omega
                    obtain ⟨ad, e0, hx0, hx1, hx2, hx3, hx4, hx5, hx6, hx7⟩ := at_T65 (Kd.R_reads' HE12.out.E).2.2 (i : Int) p0 p1
                    cases e0
                    rw [Int.toNat_natCast] at hx0 hx1 hx2 hx3 hx4 hx5 hx6 hx7
                    have hsn := foldl_take_snoc (pushE a3 l4 (out ++ [x]) x) es i hi (popL (x :: xs))
                    rw [← rd65 es i hi] at hsn
                    have hql : ((es.take i).foldl (pushE a3 l4 (out ++ [x]) x) (popL (x :: xs))).length ≤ 2000001 := by
                      have := pushFold_len a3 l4 (out ++ [x]) x (es.take i) (popL (x :: xs))
                      have h2 : (es.take i).length ≤ i := List.length_take_le _ _
                      have := HPL.out
                      omega
                    generalize (es.take i).foldl (pushE a3 l4 (out ++ [x]) x) (popL (x :: xs)) = qi at hsn hql HS12
                    obtain ⟨ed, Hed⟩ : ∃ ed, ed = rd_T65 es (i : Int) := ⟨_, rfl⟩
                    rw [← Hed] at hx0 hx1 hx2 hx3 hx4 hx5 hx6 hx7 hsn
                    clear Hed
                    obtain ⟨sd, th, okb, hps, hok, hth⟩ := pass_three ed x.f1 a3
                    obtain ⟨hadb, hhad⟩ : ∃ hadb, hadb = decide (ed.f2 ∈ (out ++ [x]).map (·.f0)) := ⟨_, rfl⟩
                    obtain ⟨clb, hcl⟩ : ∃ clb, clb = decide (ed.f2 ∈ l4) := ⟨_, rfl⟩
                    have hpe := pushE_eq (q := qi) hok hhad hcl hth
                    rw [hpe] at hsn
                    have HSN := Aside0.mk hsn
                    have HQL := Aside0.mk (show qi.length ≤ 1000000000000 by omega)
                    have HPS := Aside0.mk hps
                    have HHD := Aside0.mk (show (aget (aset t x.f0 x.f1) ed.f2).isSome = hadb by rw [HT2.out, hhad])
                    have HCD := Aside0.mk (show (aget m ed.f2).getD false = clb by rw [HCL.out, hcl]; by_cases c : ed.f2 ∈ l4 <;> simp [c])
                    have y1 := HX12.out.c1
                    clear hsn hql hps hok hth hhad hcl hpe
                    cases okb <;> cases hadb <;> cases clb
                    all_goals
                      go_wp2_with (first
                        | ((with_reducible refine gate_dst (N := 21) rfl ?_); go_loud (refine box2 21 rfl rfl rfl rfl rfl rfl #[.int .i64 ed.f0, .int .i64 ed.f1, .int .i64 ed.f2, .int .i64 ed.f3, .int .i64 ed.f4, .int .i64 ed.f5, .int .i64 ed.f6, .int .i64 ed.f7] info65 rfl rfl (by simp [Value.oneCell']) (by first | (go_simp; done) | (go_simp; rfl)) (by first | (go_simp; done) | (go_simp; rfl)) ?_); intro ge w13 hg hblk hbw hs; have HS13 := Aside0.mk (HS12.out.below hbw); have HX13 := Aside0.mk (HX12.out.below hbw); have HE13 := Aside0.mk (HE12.out.below hbw); have HK13 := Aside0.mk hblk; have u1 := HX13.out.c1; have e0 := (blk_cell hblk 0).trans rfl; have e1 := (blk_cell hblk 1).trans rfl; have e2 := (blk_cell hblk 2).trans rfl; have e3 := (blk_cell hblk 3).trans rfl; have e4 := (blk_cell hblk 4).trans rfl; have e5 := (blk_cell hblk 5).trans rfl; have e6 := (blk_cell hblk 6).trans rfl; have e7 := (blk_cell hblk 7).trans rfl; clear hg hblk hbw hs hx0 hx1 hx2 hx3 hx4 hx5 hx6 hx7 y1 HS12 HX12 HE12)
                        | ((with_reducible refine gate_dst (N := 87) rfl ?_); go_loud (refine im_look2 (Value.int .i64) 0 87 rfl rfl rfl Try.underlying74 Try.underlying3 zero3 bm (aset t x.f0 x.f1) ed.f2 rfl rfl HS13.out.M ?_); rw [HHD.out])
                        | (go_at_call 46; go_loud (refine (hop_Pass.calls 1 ed.f0 ed.f1 ed.f2 ed.f3 ed.f4 ed.f5 ed.f6 ed.f7 x.f1 a3 sd th _ _ HPS.out).mono ?_); rintro e w14 ⟨rfl, hb⟩; have HS14 := Aside0.mk (HS13.out.below hb); have HX14 := Aside0.mk (HX13.out.below hb); have HE14 := Aside0.mk (HE13.out.below hb); have HK14 := Aside0.mk (blk_below HK13.out hb); have v2 := (blk_cell HK14.out 2).trans rfl; clear hb e0 e1 e2 e3 e4 e5 e6 e7 u1 HS13 HX13 HE13 HK13)
                        | ((with_reducible refine gate_dst (N := 108) rfl ?_); refine gate_guard (by rfl) ?_; go_loud (refine im_look1 Value.bool false 108 rfl rfl rfl Try.underlying73 Try.underlying3 zero4e bc m ed.f2 rfl rfl HS14.out.C ?_); rw [HCD.out])
                        | (go_at_call 47; go_loud (refine (push_calls ⟨ed.f2, th⟩ HS14.out.Q.v HS14.out.B.size HQL.out).mono ?_); rintro e w15 ⟨rfl, g', cap', hh, hk, ho⟩; have HS15 := Aside0.mk (HS14.out.push hk hh ho); have HX15 := Aside0.mk (HX14.out.push hk ho); have HE15 := Aside0.mk (HE14.out.push HS14.out.Q.hdr hk ho); clear hh hk ho))
                    all_goals
                      go_roundg k2
                      case measure => omega
                      case rel =>
                        have hz := HSN.out
                        have hi1 : i + 1 + k2 = es.length := by have := HI.out; omega
                        first
                          | (rw [if_pos (by simp)] at hz; have HZ := HS15.out; rw [← hz] at HZ; exact ⟨i + 1, g', cap', by first | rfl | (simp; done) | (go_num; done), ⟨hi1⟩, ⟨HZ⟩, HX15, HE15⟩)
                          | (rw [if_neg (by simp)] at hz; have HZ := HS14.out; rw [← hz] at HZ; exact ⟨i + 1, g, cap, by first | rfl | (simp; done) | (go_num; done), ⟨hi1⟩, ⟨HZ⟩, HX14, HE14⟩)
      | succ k1 =>
        have hi : i < l4.length := by have := HI.out; omega
        have p0 : 0 ≤ ((i : Nat) : Int) := by omega
        have p1 : ((i : Nat) : Int) < (l4.length : Int) := by omega
        obtain ⟨ad, e0, hx⟩ := Kd.at_int HR4.out (i : Int) p0 p1
        cases e0
        rw [Int.toNat_natCast, rdI l4 i hi] at hx
        replace hx := pw_cell_below HB.out hx
        have hwr := wrap_succ i hi hl4
        have HM2 := Aside0.mk (show Closed (aset m l4[i] true) (l4.take (i + 1)) by rw [List.take_succ_eq_append_getElem hi]; exact closed_step HM.out _)
        generalize l4[i] = y at hx HM2
        go_wp2_with (first
          | (at_mapUpdate; go_loud (refine im_store Value.bool rfl rfl rfl Try.underlying73 Try.underlying3 bc m y true rfl rfl rfl HC.out ?_); intro w4 hm4 hg4 hs4; have HC4 := Aside0.mk hm4; have HB4 := Aside0.mk (below_grown_one HB.out hg4 HGC.out); clear hm4 hg4 hs4 hx HC HB))
        go_roundg k1
        case measure => omega
        case rel => exact ⟨i + 1, aset m y true, by first | rfl | (simp; done) | (rw [hwr]; done) | (go_num; done), ⟨by have := HI.out; omega⟩, HM2, HC4, HB4⟩
  · rw [decide_eq_false hA] at hask
    rw [if_neg hA] at h
    injection h with h
    subst h
    have HAS := Aside0.mk hask
    clear hask hA
    go_enter Try.func21, Try.ntmps21
    go_wp2_with (first
      | (go_at_call 41; go_loud (refine (early_asked.calls (l0.length + 2) A0 c0 l0 a1 a2 a3 false _ HR0.out HC0.out HAS.out).mono ?_); rintro e w1 ⟨rfl, hb⟩; have HB1 := Aside0.mk hb; clear hb HB))
    go_ret
    exact ⟨_, rfl, Kd.R_nil k71 71 _ w.heap.size (fun _ => True), HB1.out⟩
end Go.Proofs.Ytijflnpgiegajaa.Q
end
