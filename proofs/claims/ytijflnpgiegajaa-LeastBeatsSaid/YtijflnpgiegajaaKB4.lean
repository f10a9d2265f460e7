/- Part 4 of the texts behind the statement that the last text of this claim proves. -/
import Derived.Test.YtijflnpgiegajaaKB0
import Derived.Test.YtijflnpgiegajaaKB1
import Derived.Test.YtijflnpgiegajaaKB2
import Derived.Test.YtijflnpgiegajaaKB3
section
namespace Go.Proofs.Ytijflnpgiegajaa.Q
open Go.RowKit Go.Proofs.YtijflnpgiegajaaW.PrintWords Go.Proofs.YtijflnpgiegajaaW.PrintLast Go.Proofs.YtijflnpgiegajaaW.PrintMore Go.Proofs.Ytijflnpgiegajaa.IM Go.Proofs.Ytijflnpgiegajaa.Ev
set_option linter.unusedVariables false
set_option linter.unusedSimpArgs false
attribute [local go_sem] max2_int min2_int max_two min_two
section
variable {P : Program} {ops : Array Oper} {Q : Exit → Act → World → Prop} {o : Oper} {rest : List Oper} {a : Act} {W : World}
theorem gate_insert {t : TypeId} {m x y : Operand} (_ho : o.op = .insert t m x y) (h : wpList P ops Q (o :: rest) a W) : wpList P ops Q (o :: rest) a W := h
end
def itT (l : List S65) (dst size : Int) (sh : List Int) : Nat → List (Int × Int) → List (Int × Int)
  | 0, T => T
  | n + 1, T => stepT l dst size sh (itT l dst size sh n T)
theorem aset_len {α : Type} (m : List (Int × α)) (k : Int) (v : α) : (aset m k v).length ≤ m.length + 1 ∧ m.length ≤ (aset m k v).length := by
  induction m with
  | nil => simp [aset]
  | cons p r ih =>
    unfold aset
    split
    · simp
    · simp only [List.length_cons]; omega
theorem laterM_len (m : List (Int × Int)) (n t : Int) : (laterM m n t).length ≤ m.length + 1 ∧ m.length ≤ (laterM m n t).length := by
  unfold laterM
  have := aset_len m n t
  split
  · exact this
  · split
    · exact this
    · omega
theorem laterM_nodup {m : List (Int × Int)} (h : (m.map (·.1)).Nodup) (n t : Int) : ((laterM m n t).map (·.1)).Nodup := by
  unfold laterM
  split
  · exact nodup_aset h _ _
  · split
    · exact nodup_aset h _ _
    · exact h
theorem stepE_len (T : List (Int × Int)) (dst size : Int) (sh : List Int) (m : List (Int × Int)) (e : S65) : (stepE T dst size sh m e).length ≤ m.length + 1 ∧ m.length ≤ (stepE T dst size sh m e).length := by
  unfold stepE
  split
  · omega
  · split
    · omega
    · split
      · exact laterM_len _ _ _
      · omega
theorem stepE_nodup (T : List (Int × Int)) (dst size : Int) (sh : List Int) {m : List (Int × Int)} (h : (m.map (·.1)).Nodup) (e : S65) : ((stepE T dst size sh m e).map (·.1)).Nodup := by
  unfold stepE
  split
  · exact h
  · split
    · exact h
    · split
      · exact laterM_nodup h _ _
      · exact h
theorem stepGo_len (T : List (Int × Int)) (dst size : Int) (sh : List Int) (l : List S65) : ∀ m : List (Int × Int), (l.foldl (stepE T dst size sh) m).length ≤ m.length + l.length ∧ m.length ≤ (l.foldl (stepE T dst size sh) m).length := by
  induction l with
  | nil => intro m; simp
  | cons e r ih =>
    intro m
    have h1 := ih (stepE T dst size sh m e)
    have h2 := stepE_len T dst size sh m e
    simp only [List.foldl_cons, List.length_cons]
    omega
theorem stepGo_nodup (T : List (Int × Int)) (dst size : Int) (sh : List Int) (l : List S65) : ∀ m : List (Int × Int), (m.map (·.1)).Nodup → ((l.foldl (stepE T dst size sh) m).map (·.1)).Nodup := by
  induction l with
  | nil => intro m h; exact h
  | cons e r ih => intro m h; exact ih _ (stepE_nodup T dst size sh h e)
theorem itT_ok (l : List S65) (dst size : Int) (sh : List Int) (n : Nat) (T : List (Int × Int)) (h : (T.map (·.1)).Nodup) : ((itT l dst size sh n T).map (·.1)).Nodup ∧ (itT l dst size sh n T).length ≤ T.length + n * l.length ∧ T.length ≤ (itT l dst size sh n T).length := by
  induction n with
  | zero => exact ⟨h, by simp [itT], Nat.le_refl _⟩
  | succ n ih =>
    have h1 := stepGo_len (itT l dst size sh n T) dst size sh l (itT l dst size sh n T)
    refine ⟨stepGo_nodup _ _ _ _ l _ ih.1, ?_, ?_⟩
    · show (List.foldl (stepE (itT l dst size sh n T) dst size sh) (itT l dst size sh n T) l).length ≤ _
      rw [Nat.add_mul, Nat.one_mul]
      omega
    · show _ ≤ (List.foldl (stepE (itT l dst size sh n T) dst size sh) (itT l dst size sh n T) l).length
      omega
def fewGo (l : List S65) (dst size : Int) (sh : List Int) (frm now : Int) : Nat → Nat → List (Int × Int) → Int × Bool
  | 0, _, _ => (0, false)
  | k + 1, h, T => match aget T frm with
    | none => fewGo l dst size sh frm now k (h + 1) (stepT l dst size sh T)
    | some x => if now ≤ x then ((h : Int), true) else fewGo l dst size sh frm now k (h + 1) (stepT l dst size sh T)
def late_Times.f (l0 : List S65) (a1 a2 a3 a4 : Int) (l5 : List Int) : Option (List S71) :=
  if l0.length ≤ 1000000 ∧ l5.length ≤ 1000000 then some (if a4 < 0 ∨ ¬ Asked l0 a1 a2 a3 then [] else rowT (itT l0 a1 a3 l5 (min a4 (l0.length : Int)).toNat [(a1, a2)])) else none
def late_Fewest.f (l0 : List S65) (a1 a2 a3 a4 a5 : Int) (l6 : List Int) : Option (Int × Bool) :=
  if l0.length ≤ 1000000 ∧ l6.length ≤ 1000000 then some (if ¬ Asked l0 a1 a3 a5 ∨ ¬ Asked l0 a2 a4 a5 then (0, false) else fewGo l0 a2 a5 l6 a1 a3 (l0.length + 1) 0 [(a2, a4)]) else none
set_option maxHeartbeats 8000000 in
set_option maxRecDepth 100000 in
theorem late_Times.calls (A0 : Option Addr) (c0 : Nat) (l0 : List (S65)) (a1 : Int) (a2 : Int) (a3 : Int) (a4 : Int) (A5 : Option Addr) (c5 : Nat) (l5 : List Int) (r : List (S71)) (w : World) (hr0 : Kd.C k65 w A0 l0.length l0) (hc0 : l0.length ≤ c0) (hr5 : Kd.C (Kd.int .i64) w A5 l5.length l5) (hc5 : l5.length ≤ c5) (h : late_Times.f l0 a1 a2 a3 a4 l5 = some r) :
    Calls Try.prog 65 #[.slice A0 l0.length c0, .int .i64 a1, .int .i64 a2, .int .i64 a3, .int .i64 a4, .slice A5 l5.length c5] w fun e w' => ∃ v0_ : Value, e = .returned (v0_) ∧ Kd.R k71 71 w' w.heap.size (fun _ => True) v0_ r ∧ Below w.heap.size w w' := by
  unfold late_Times.f at h
  split at h
  case isFalse => exact absurd h (by simp)
  rename_i hlen
  injection h with h
  have hask := late_asked_eq l0 hlen.1 (l0.length + 2) (by omega) a1 a2 a3
  have HR0 := Aside0.mk hr0
  have HC0 := Aside0.mk hc0
  have HR5 := Aside0.mk hr5
  have HC5 := Aside0.mk hc5
  have HLN := Aside0.mk hlen
  have HB := Aside0.mk (Below.refl w.heap.size w)
  clear hr0 hc0 hr5 hc5 hlen
  by_cases h4 : a4 < 0
  · rw [if_pos (Or.inl h4)] at h
    subst h
    have HO := Aside0.mk (Kd.R_nil k71 71 w w.heap.size (fun _ => True))
    clear hask
    go_enter Try.func65, Try.ntmps65
    go_wp2
    go_ret
    exact ⟨_, rfl, HO.out, HB.out⟩
  · by_cases hA : Asked l0 a1 a2 a3
    · rw [decide_eq_true hA] at hask
      rw [if_neg (fun q => q.elim h4 (fun q => q hA))] at h
      have HAS := Aside0.mk hask
      obtain ⟨n, hn⟩ : ∃ n : Nat, (min a4 (l0.length : Int)).toNat = n := ⟨_, rfl⟩
      rw [hn] at h
      have hmin : min a4 (l0.length : Int) = (n : Int) := by omega
      have hnl : n ≤ l0.length := by omega
      have HMIN := Aside0.mk hmin
      have HNL := Aside0.mk hnl
      have HH := Aside0.mk h
      have h4b : ¬ a4 < 0 := h4
      clear hask h hA hn hmin hnl
      rcases Int.lt_or_le (l0.length : Int) a4 with hcm | hcm
      all_goals
        go_enter Try.func65, Try.ntmps65
        go_wp2_with (first
          | (go_at_call 52; go_loud (refine (late_asked.calls (l0.length + 2) A0 c0 l0 a1 a2 a3 true _ HR0.out HC0.out HAS.out).mono ?_); rintro e w1 ⟨rfl, hb⟩; have HB1 := Aside0.mk hb; clear hb HB)
          | ((with_reducible refine gate_dst (N := 24) rfl ?_); go_loud (refine im_make 24 rfl rfl rfl ?_); intro b2 w2 hb hm hbw hs; have HM2 := Aside0.mk hm; have HGE2 := Aside0.mk (show w.heap.size ≤ b2 from Nat.le_trans HB1.out.size (Nat.le_of_eq hb.symm)); have HB2 := Aside0.mk (below_step HB1.out hbw); clear hb hm hbw hs HB1)
          | ((with_reducible refine gate_insert (t := 89) (m := .tmp 24) (x := .tmp 25) (y := .tmp 26) rfl ?_); go_loud (refine im_insert (Value.int .i64) rfl rfl rfl Try.underlying89 Try.underlying3 b2 [] a1 a2 rfl rfl rfl HM2.out ?_); intro w3 hm3 hg3 hs3; have HM3 := Aside0.mk hm3; have HB3 := Aside0.mk (below_grown_one HB2.out hg3 HGE2.out); clear hm3 hg3 hs3 HM2 HB2 HGE2))
        have HT0 := Aside0.mk (show TMap _ b2 (itT l0 a1 a3 l5 0 [(a1, a2)]) from ⟨[(a1, a2)], fun _ => rfl, HM3.out⟩)
        go_loopg [13, 32] n (fun kq v13 v32 w' => ∃ (i b : Nat), v13 = .map (some b) ∧ v32 = .int .i64 (i : Int) ∧ Aside0 (i + kq = n) ∧ Aside0 (TMap w' b (itT l0 a1 a3 l5 i [(a1, a2)])) ∧ Aside0 (Below w.heap.size w w'))
        case atStart => exact ⟨0, b2, rfl, rfl, ⟨by omega⟩, HT0, HB3⟩
        case round =>
          clear HT0 HB3 HM3
          obtain ⟨i, b, rfl, rfl, HI, HT, HB⟩ := hrel
          cases gk with
          | zero =>
            have hin : i = n := by have := HI.out; omega
            subst hin
            have hmi := HMIN.out
            first | (have hi : ¬ ((i : Nat) : Int) < (l0.length : Int) := by omega) | (have hi : ¬ ((i : Nat) : Int) < a4 := by omega)
            clear hmi
            have HOK := Aside0.mk (itT_ok l0 a1 a3 l5 i [(a1, a2)] (by simp))
            have HTN := Aside0.mk (show itT l0 a1 a3 l5 i [(a1, a2)] ≠ [] from fun e => by have := HOK.out.2.2; rw [e] at this; simp at this)
            have HTL := Aside0.mk (show (itT l0 a1 a3 l5 i [(a1, a2)]).length ≤ 2000000000000 by
              have h1 := HOK.out.2.1
              have h2 : i * l0.length ≤ 1000000 * 1000000 := Nat.mul_le_mul (Nat.le_trans HNL.out HLN.out.1) HLN.out.1
              simp only [List.length_cons, List.length_nil] at h1
              omega)
            go_wp2_with (first
              | (go_at_call 88; go_loud (refine (row_calls b _ _ HT.out HOK.out.1 HTN.out HTL.out).mono ?_); rintro e w6 ⟨v6, rfl, ho, hb⟩; have HO6 := Aside0.mk ho; have HB6 := Aside0.mk (below_step HB.out hb); have HSZ := Aside0.mk HB.out.size; clear hb ho HB))
            go_ret
            exact ⟨_, rfl, by rw [← HH.out]; exact Kd.R_lower HO6.out HSZ.out, HB6.out⟩
          | succ k1 =>
            have hmi := HMIN.out
            have hi1 : ((i : Nat) : Int) < (l0.length : Int) := by have := HI.out; omega
            have hi2 : ((i : Nat) : Int) < a4 := by have := HI.out; omega
            have hll := HLN.out.1
            have hwr := wrap_succ (n := l0.length) i (by omega) hll
            clear hmi
            go_wp2_with (first
              | (go_at_call 53; go_loud (refine (step_calls b _ A0 c0 l0 a1 a3 A5 c5 l5 _ HT.out (Kd.C_below HR0.out HB.out) HC0.out (Kd.C_below HR5.out HB.out) HC5.out HLN.out.2).mono ?_); rintro e w6 ⟨b6, rfl, hge, ht, hb⟩; have HT6 := Aside0.mk ht; have HB6 := Aside0.mk (below_step HB.out hb); clear hb ht hge HB HT))
            go_roundg k1
            case measure => omega
            case rel => exact ⟨i + 1, b6, rfl, by first | rfl | (simp; done) | (rw [hwr]; done) | (go_num; done), ⟨by have := HI.out; omega⟩, HT6, HB6⟩
    · rw [decide_eq_false hA] at hask
      rw [if_pos (Or.inr hA)] at h
      subst h
      have HAS := Aside0.mk hask
      clear hask hA
      go_enter Try.func65, Try.ntmps65
      go_wp2_with (first
        | (go_at_call 52; go_loud (refine (late_asked.calls (l0.length + 2) A0 c0 l0 a1 a2 a3 false _ HR0.out HC0.out HAS.out).mono ?_); rintro e w1 ⟨rfl, hb⟩; have HB1 := Aside0.mk hb; clear hb HB))
      go_ret
      exact ⟨_, rfl, Kd.R_nil k71 71 _ w.heap.size (fun _ => True), HB1.out⟩
set_option maxHeartbeats 8000000 in
set_option maxRecDepth 100000 in
theorem late_Fewest.calls (A0 : Option Addr) (c0 : Nat) (l0 : List (S65)) (a1 : Int) (a2 : Int) (a3 : Int) (a4 : Int) (a5 : Int) (A6 : Option Addr) (c6 : Nat) (l6 : List Int) (r1 : Int) (r2 : Bool) (w : World) (hr0 : Kd.C k65 w A0 l0.length l0) (hc0 : l0.length ≤ c0) (hr6 : Kd.C (Kd.int .i64) w A6 l6.length l6) (hc6 : l6.length ≤ c6) (h : late_Fewest.f l0 a1 a2 a3 a4 a5 l6 = some (r1, r2)) :
    Calls Try.prog 23 #[.slice A0 l0.length c0, .int .i64 a1, .int .i64 a2, .int .i64 a3, .int .i64 a4, .int .i64 a5, .slice A6 l6.length c6] w fun e w' => e = .returned (.tuple #[.int .i64 r1, .bool r2]) ∧ Below w.heap.size w w' := by
  unfold late_Fewest.f at h
  split at h
  case isFalse => exact absurd h (by simp)
  rename_i hlen
  injection h with h
  have hask1 := late_asked_eq l0 hlen.1 (l0.length + 2) (by omega) a1 a3 a5
  have hask2 := late_asked_eq l0 hlen.1 (l0.length + 2) (by omega) a2 a4 a5
  have HR0 := Aside0.mk hr0
  have HC0 := Aside0.mk hc0
  have HR5 := Aside0.mk hr6
  have HC5 := Aside0.mk hc6
  have HLN := Aside0.mk hlen
  have HB := Aside0.mk (Below.refl w.heap.size w)
  clear hr0 hc0 hr6 hc6 hlen
  by_cases hA : Asked l0 a1 a3 a5
  · rw [decide_eq_true hA] at hask1
    have HAS1 := Aside0.mk hask1
    clear hask1
    by_cases hA2 : Asked l0 a2 a4 a5
    · rw [decide_eq_true hA2] at hask2
      rw [if_neg (fun q => q.elim (fun q => q hA) (fun q => q hA2))] at h
      have HAS2 := Aside0.mk hask2
      have HH := Aside0.mk h
      clear hask2 hA hA2 h
      go_enter Try.func23, Try.ntmps23
      go_wp2_with (first
        | (go_at_call 52; have hq := HB; clear hq; go_loud (refine (late_asked.calls (l0.length + 2) A0 c0 l0 a1 a3 a5 true _ HR0.out HC0.out HAS1.out).mono ?_); rintro e w1 ⟨rfl, hb⟩; have HB1 := Aside0.mk hb; have HR1 := Aside0.mk (Kd.C_below HR0.out hb); clear hb HB)
        | (go_at_call 52; go_loud (refine (late_asked.calls (l0.length + 2) A0 c0 l0 a2 a4 a5 true _ HR1.out HC0.out HAS2.out).mono ?_); rintro e w1 ⟨rfl, hb⟩; have HB2 := Aside0.mk (below_step HB1.out hb); clear hb HB1 HR1)
        | ((with_reducible refine gate_dst (N := 34) rfl ?_); go_loud (refine im_make 34 rfl rfl rfl ?_); intro b2 w2 hb hm hbw hs; have HM3 := Aside0.mk hm; have HGE3 := Aside0.mk (show w.heap.size ≤ b2 from Nat.le_trans HB2.out.size (Nat.le_of_eq hb.symm)); have HB3 := Aside0.mk (below_step HB2.out hbw); clear hb hm hbw hs HB2)
        | ((with_reducible refine gate_insert (t := 89) (m := .tmp 34) (x := .tmp 35) (y := .tmp 36) rfl ?_); go_loud (refine im_insert (Value.int .i64) rfl rfl rfl Try.underlying89 Try.underlying3 b2 [] a2 a4 rfl rfl rfl HM3.out ?_); intro w3 hm3 hg3 hs3; have HM4 := Aside0.mk hm3; have HB4 := Aside0.mk (below_grown_one HB3.out hg3 HGE3.out); clear hm3 hg3 hs3 HM3 HB3 HGE3))
      have HT0 := Aside0.mk (show TMap _ b2 (itT l0 a2 a5 l6 0 [(a2, a4)]) from ⟨[(a2, a4)], fun _ => rfl, HM4.out⟩)
      have hll := HLN.out.1
      have hwl : wrap64 ((l0.length : Int) + 1) = (l0.length : Int) + 1 := wrap_in (by omega) (by omega)
      rw [hwl]
      go_loopg [16, 17, 18, 19, 41] (l0.length + 1) (fun kq v16 _ _ _ v41 w' => ∃ (i b : Nat), v16 = .map (some b) ∧ v41 = .int .i64 (i : Int) ∧ Aside0 (i + kq = l0.length + 1) ∧ Aside0 (TMap w' b (itT l0 a2 a5 l6 i [(a2, a4)])) ∧ Aside0 (Below w.heap.size w w') ∧ Aside0 (fewGo l0 a2 a5 l6 a1 a3 kq i (itT l0 a2 a5 l6 i [(a2, a4)]) = (r1, r2)))
      case atStart => exact ⟨0, b2, rfl, rfl, ⟨by omega⟩, HT0, HB4, HH⟩
      case round =>
        clear HT0 HB4 HM4 HH
        obtain ⟨i, b, rfl, rfl, HI, HT, HB, HF⟩ := hrel
        cases gk with
        | zero =>
          have hi : ¬ ((i : Nat) : Int) < (l0.length : Int) + 1 := by have := HI.out; omega
          have hff := HF.out
          simp only [fewGo, Prod.mk.injEq] at hff
          obtain ⟨rfl, rfl⟩ := hff
          go_wp2
          go_ret2
          exact ⟨rfl, HB.out⟩
        | succ k1 =>
          have hi : ((i : Nat) : Int) < (l0.length : Int) + 1 := by have := HI.out; omega
          have hwr : wrap64 ((i : Int) + 1) = ((i + 1 : Nat) : Int) := by rw [wrap_in (by omega) (by omega)]; omega
          obtain ⟨t, hag, hm⟩ := HT.out
          have HM := Aside0.mk hm
          have hff := HF.out
          simp only [fewGo] at hff
          cases hg : aget (itT l0 a2 a5 l6 i [(a2, a4)]) a1 with
          | none =>
            have HA := Aside0.mk ((hag a1).trans hg)
            rw [hg] at hff
            have HGO := Aside0.mk (show fewGo l0 a2 a5 l6 a1 a3 k1 (i + 1) (itT l0 a2 a5 l6 (i + 1) [(a2, a4)]) = (r1, r2) from hff)
            clear hag hm hff hg HF
            go_wp2_with (first
              | (at_lookup; go_loud (refine im_look2 (Value.int .i64) 0 47 rfl rfl rfl Try.underlying89 Try.underlying3 zero3 b t a1 rfl rfl HM.out ?_); rw [HA.out])
              | (go_at_call 53; go_loud (refine (step_calls b _ A0 c0 l0 a2 a5 A6 c6 l6 _ HT.out (Kd.C_below HR0.out HB.out) HC0.out (Kd.C_below HR5.out HB.out) HC5.out HLN.out.2).mono ?_); rintro e w6 ⟨b6, rfl, hge, ht, hb⟩; have HT6 := Aside0.mk ht; have HB6 := Aside0.mk (below_step HB.out hb); clear hb ht hge HB HT))
            go_roundg k1
            case measure => omega
            case rel => exact ⟨i + 1, b6, rfl, by first | rfl | (simp; done) | (rw [hwr]; done) | (go_num; done), ⟨by have := HI.out; omega⟩, HT6, HB6, HGO⟩
          | some x =>
            have HA := Aside0.mk ((hag a1).trans hg)
            rw [hg] at hff
            by_cases hx : a3 ≤ x
            · simp only [if_pos hx, Prod.mk.injEq] at hff
              obtain ⟨rfl, rfl⟩ := hff
              clear hag hm hg HF
              go_wp2_with (first
                | (at_lookup; go_loud (refine im_look2 (Value.int .i64) 0 47 rfl rfl rfl Try.underlying89 Try.underlying3 zero3 b t a1 rfl rfl HM.out ?_); rw [HA.out]))
              go_ret2
              exact ⟨rfl, HB.out⟩
            · simp only [if_neg hx] at hff
              have HGO := Aside0.mk (show fewGo l0 a2 a5 l6 a1 a3 k1 (i + 1) (itT l0 a2 a5 l6 (i + 1) [(a2, a4)]) = (r1, r2) from hff)
              clear hag hm hff hg HF
              go_wp2_with (first
                | (at_lookup; go_loud (refine im_look2 (Value.int .i64) 0 47 rfl rfl rfl Try.underlying89 Try.underlying3 zero3 b t a1 rfl rfl HM.out ?_); rw [HA.out])
                  | (go_at_call 53; go_loud (refine (step_calls b _ A0 c0 l0 a2 a5 A6 c6 l6 _ HT.out (Kd.C_below HR0.out HB.out) HC0.out (Kd.C_below HR5.out HB.out) HC5.out HLN.out.2).mono ?_); rintro e w6 ⟨b6, rfl, hge, ht, hb⟩; have HT6 := Aside0.mk ht; have HB6 := Aside0.mk (below_step HB.out hb); clear hb ht hge HB HT))
              go_roundg k1
              case measure => omega
              case rel => exact ⟨i + 1, b6, rfl, by first | rfl | (simp; done) | (rw [hwr]; done) | (go_num; done), ⟨by have := HI.out; omega⟩, HT6, HB6, HGO⟩
    · rw [decide_eq_false hA2] at hask2
      rw [if_pos (Or.inr hA2)] at h
      cases h
      have HAS2 := Aside0.mk hask2
      clear hask2 hA hA2
      go_enter Try.func23, Try.ntmps23
      go_wp2_with (first
        | (go_at_call 52; have hq := HB; clear hq; go_loud (refine (late_asked.calls (l0.length + 2) A0 c0 l0 a1 a3 a5 true _ HR0.out HC0.out HAS1.out).mono ?_); rintro e w1 ⟨rfl, hb⟩; have HB1 := Aside0.mk hb; have HR1 := Aside0.mk (Kd.C_below HR0.out hb); clear hb HB)
        | (go_at_call 52; go_loud (refine (late_asked.calls (l0.length + 2) A0 c0 l0 a2 a4 a5 false _ HR1.out HC0.out HAS2.out).mono ?_); rintro e w1 ⟨rfl, hb⟩; have HB2 := Aside0.mk (below_step HB1.out hb); clear hb HB1 HR1))
      go_ret2
      exact ⟨rfl, HB2.out⟩
  · rw [decide_eq_false hA] at hask1
    rw [if_pos (Or.inl hA)] at h
    cases h
    have HAS1 := Aside0.mk hask1
    clear hask1 hask2 hA
    go_enter Try.func23, Try.ntmps23
    go_wp2_with (first
      | (go_at_call 52; have hq := HB; clear hq; go_loud (refine (late_asked.calls (l0.length + 2) A0 c0 l0 a1 a3 a5 false _ HR0.out HC0.out HAS1.out).mono ?_); rintro e w1 ⟨rfl, hb⟩; have HB1 := Aside0.mk hb; clear hb HB))
    go_ret2
    exact ⟨rfl, HB1.out⟩
end Go.Proofs.Ytijflnpgiegajaa.Q
end
section
namespace Go.Proofs.Ytijflnpgiegajaa.Q
open Go.RowKit Go.Proofs.YtijflnpgiegajaaW.PrintWords Go.Proofs.YtijflnpgiegajaaW.PrintLast Go.Proofs.YtijflnpgiegajaaW.PrintMore Go.Proofs.Ytijflnpgiegajaa.IM
set_option linter.unusedVariables false
set_option linter.unusedSimpArgs false
def Way (l : List S65) (size : Int) (sh : List Int) : List S65 → Int → Int → Int → Prop
  | [], a, _, b => a = b
  | e :: r, a, t, b => e ∈ l ∧ e.f1 = a ∧ e.f2 ∉ sh ∧ PassP e t size ∧ Way l size sh r e.f2 (thereAt e t size) b
def endT (size : Int) : List S65 → Int → Int
  | [], t => t
  | e :: r, t => endT size r (thereAt e t size)
theorem pass_mono {e : S65} {t t' size : Int} (h : PassP e t' size) (h0 : 0 ≤ t) (hle : t ≤ t') : PassP e t size ∧ thereAt e t size ≤ thereAt e t' size := by
  unfold PassP TimeP thereAt at *
  obtain ⟨h1, h2, h3, h4, h5⟩ := h
  exact ⟨⟨by omega, h2, h3, h4, by omega⟩, by omega⟩
theorem there_ge {e : S65} {t size : Int} (h : PassP e t size) : t ≤ thereAt e t size ∧ TimeP (thereAt e t size) := by
  have hb := takes_bd h.2.2.1 h.2.1
  unfold PassP at h
  obtain ⟨h1, h2, h3, h4, h5⟩ := h
  obtain ⟨_, _, _, g3, g4, g6, _, _, _⟩ := h3
  unfold TimeP thereAt at *
  omega
theorem pass_late {e : S65} {t b size : Int} (ht : 0 ≤ t) (hb : TimeP b) : (PassP e t size ∧ thereAt e t size ≤ b) ↔ (LateP e b size ∧ t ≤ lateAt e b size) := by
  constructor
  · rintro ⟨h, hle⟩
    have htb := takes_bd h.2.2.1 h.2.1
    unfold PassP LateP lateAt thereAt TimeP at *
    obtain ⟨h1, h2, h3, h4, h5⟩ := h
    exact ⟨⟨hb, h2, h3, h4, by omega⟩, by omega⟩
  · rintro ⟨h, hle⟩
    have htb := takes_bd h.2.2.1 h.2.1
    unfold PassP LateP lateAt thereAt TimeP at *
    obtain ⟨h1, h2, h3, h4, h5⟩ := h
    obtain ⟨_, _, _, g3, g4, g6, _, _, _⟩ := id h3
    exact ⟨⟨by omega, h2, h3, h4, by omega⟩, by omega⟩
theorem way_mono {l : List S65} {size : Int} {sh : List Int} : ∀ (es : List S65) (a t t' b : Int), 0 ≤ t → t ≤ t' → Way l size sh es a t' b → Way l size sh es a t b ∧ endT size es t ≤ endT size es t'
  | [], a, t, t', b, _, hle, h => ⟨h, hle⟩
  | e :: r, a, t, t', b, h0, hle, h => by
    obtain ⟨h1, h2, h3, h4, h5⟩ := h
    have hp := pass_mono h4 h0 hle
    have hg := there_ge hp.1
    have := way_mono r e.f2 _ _ b (by omega) hp.2 h5
    exact ⟨⟨h1, h2, h3, hp.1, this.1⟩, this.2⟩
theorem endT_ge {l : List S65} {size : Int} {sh : List Int} : ∀ (es : List S65) (a t b : Int), Way l size sh es a t b → t ≤ endT size es t ∧ (TimeP t → TimeP (endT size es t))
  | [], a, t, b, h => ⟨Int.le_refl _, id⟩
  | e :: r, a, t, b, h => by
    obtain ⟨h1, h2, h3, h4, h5⟩ := h
    have hg := there_ge h4
    have := endT_ge r e.f2 _ b h5
    exact ⟨Int.le_trans hg.1 this.1, fun _ => this.2 hg.2⟩
theorem endT_append (size : Int) : ∀ (xs ys : List S65) (t : Int), endT size (xs ++ ys) t = endT size ys (endT size xs t)
  | [], ys, t => rfl
  | e :: r, ys, t => endT_append size r ys _
theorem way_append {l : List S65} {size : Int} {sh : List Int} : ∀ (xs ys : List S65) (a t b : Int), Way l size sh (xs ++ ys) a t b ↔ ∃ m, Way l size sh xs a t m ∧ Way l size sh ys m (endT size xs t) b
  | [], ys, a, t, b => ⟨fun h => ⟨a, rfl, h⟩, fun ⟨m, h1, h2⟩ => by cases h1; exact h2⟩
  | e :: r, ys, a, t, b => by
    simp only [List.cons_append, Way, way_append r ys, endT]
    constructor
    · rintro ⟨h1, h2, h3, h4, m, h5, h6⟩
      exact ⟨m, ⟨h1, h2, h3, h4, h5⟩, h6⟩
    · rintro ⟨m, ⟨h1, h2, h3, h4, h5⟩, h6⟩
      exact ⟨h1, h2, h3, h4, m, h5, h6⟩
theorem way_sub {l l' : List S65} {size : Int} {sh sh' : List Int} : ∀ (es : List S65) (a t b : Int), (∀ e ∈ es, e ∈ l → e.f2 ∉ sh → e ∈ l' ∧ e.f2 ∉ sh') → Way l size sh es a t b → Way l' size sh' es a t b
  | [], a, t, b, _, h => h
  | e :: r, a, t, b, hs, h => by
    obtain ⟨h1, h2, h3, h4, h5⟩ := h
    have := hs e (by simp) h1 h3
    exact ⟨this.1, h2, this.2, h4, way_sub r _ _ b (fun e he => hs e (by simp [he])) h5⟩
theorem way_all {l : List S65} {size : Int} {sh : List Int} : ∀ (es : List S65) (a t b : Int), Way l size sh es a t b → ∀ e ∈ es, e ∈ l ∧ e.f2 ∉ sh ∧ RightE e
  | [], a, t, b, _, e, he => by simp at he
  | x :: r, a, t, b, h, e, he => by
    obtain ⟨h1, h2, h3, h4, h5⟩ := h
    rcases List.mem_cons.1 he with rfl | he
    · exact ⟨h1, h3, h4.2.2.1⟩
    · exact way_all r _ _ b h5 e he
structure EInv (l : List S65) (size : Int) (sh : List Int) (frm now : Int) (out q : List S71) : Prop where
  heap : HeapOrd q
  nod : (out.map (·.f0)).Nodup
  sound : ∀ x, x ∈ out ∨ x ∈ q → ∃ es, Way l size sh es frm now x.f0 ∧ endT size es now = x.f1
  mono : ∀ x ∈ out, ∀ y ∈ q, x.f1 ≤ y.f1
  start : ∃ x, (x ∈ out ∨ x ∈ q) ∧ x.f0 = frm ∧ x.f1 ≤ now
  clos : ∀ x ∈ out, ∀ e ∈ l, e.f1 = x.f0 → e.f2 ∉ sh → PassP e x.f1 size → ∃ y, (y ∈ out ∨ y ∈ q) ∧ y.f0 = e.f2 ∧ y.f1 ≤ thereAt e x.f1 size
def Pushed (size : Int) (sh : List Int) (out : List S71) (r : S71) (es : List S65) (y : S71) : Prop := ∃ e ∈ es, (PassP e r.f1 size ∧ e.f2 ∉ out.map (·.f0) ∧ e.f2 ∉ sh) ∧ y = ⟨e.f2, thereAt e r.f1 size⟩
theorem mem_pushE {size : Int} {sh : List Int} {out : List S71} {r : S71} {q : List S71} {e : S65} {y : S71} : y ∈ pushE size sh out r q e ↔ y ∈ q ∨ ((PassP e r.f1 size ∧ e.f2 ∉ out.map (·.f0) ∧ e.f2 ∉ sh) ∧ y = ⟨e.f2, thereAt e r.f1 size⟩) := by
  unfold pushE
  split
  · rename_i h
    rw [(pushL_perm q _).mem_iff]
    simp [h]
    exact Or.comm
  · rename_i h
    exact ⟨.inl, fun g => g.elim id (fun g => absurd g.1 h)⟩
theorem mem_pushFold {size : Int} {sh : List Int} {out : List S71} {r : S71} {y : S71} : ∀ (es : List S65) (q : List S71), y ∈ es.foldl (pushE size sh out r) q ↔ y ∈ q ∨ Pushed size sh out r es y
  | [], q => by simp [Pushed]
  | e :: es, q => by
    rw [List.foldl_cons, mem_pushFold es, mem_pushE]
    unfold Pushed
    constructor
    · rintro ((h | h) | ⟨e', he, h⟩)
      · exact .inl h
      · exact .inr ⟨e, by simp, h⟩
      · exact .inr ⟨e', by simp [he], h⟩
    · rintro (h | ⟨e', he, h⟩)
      · exact .inl (.inl h)
      · rcases List.mem_cons.1 he with rfl | he
        · exact .inl (.inr h)
        · exact .inr ⟨e', he, h⟩
theorem heap_pushFold {size : Int} {sh : List Int} {out : List S71} {r : S71} : ∀ (es : List S65) (q : List S71), HeapOrd q → HeapOrd (es.foldl (pushE size sh out r) q)
  | [], q, h => h
  | e :: es, q, h => by
    rw [List.foldl_cons]
    refine heap_pushFold es _ ?_
    unfold pushE
    split
    · exact pushL_heap h _
    · exact h
theorem einv_start (l : List S65) (size : Int) (sh : List Int) (frm now : Int) : EInv l size sh frm now [] [⟨frm, now⟩] where
  heap := fun i h0 hi => by simp at hi; omega
  nod := by simp
  sound := fun x hx => by
    simp at hx
    subst hx
    exact ⟨[], rfl, rfl⟩
  mono := fun x hx => by simp at hx
  start := ⟨⟨frm, now⟩, by simp, rfl, Int.le_refl _⟩
  clos := fun x hx => by simp at hx
theorem einv_drop {l : List S65} {size : Int} {sh : List Int} {frm now : Int} {out xs : List S71} {x : S71} (h : EInv l size sh frm now out (x :: xs)) (hx : x.f0 ∈ out.map (·.f0)) : EInv l size sh frm now out (popL (x :: xs)) := by
  have hm : ∀ y, y ∈ popL (x :: xs) ↔ y ∈ xs := fun y => (popL_perm x xs).mem_iff
  obtain ⟨x', hx', he⟩ := List.mem_map.1 hx
  have hle := h.mono x' hx' x (by simp)
  have key : ∀ y, (y ∈ out ∨ y ∈ x :: xs) → ∃ z, (z ∈ out ∨ z ∈ popL (x :: xs)) ∧ z.f0 = y.f0 ∧ z.f1 ≤ y.f1 := by
    rintro y (hy | hy)
    · exact ⟨y, .inl hy, rfl, Int.le_refl _⟩
    · rcases List.mem_cons.1 hy with rfl | hy
      · exact ⟨x', .inl hx', he, hle⟩
      · exact ⟨y, .inr ((hm y).2 hy), rfl, Int.le_refl _⟩
  refine ⟨popL_heap h.heap, h.nod, ?_, ?_, ?_, ?_⟩
  · rintro y (hy | hy)
    · exact h.sound y (.inl hy)
    · exact h.sound y (.inr (by simp [(hm y).1 hy]))
  · intro y hy z hz
    exact h.mono y hy z (by simp [(hm z).1 hz])
  · obtain ⟨y, hy, h1, h2⟩ := h.start
    obtain ⟨z, hz, h3, h4⟩ := key y hy
    exact ⟨z, hz, h3.trans h1, Int.le_trans h4 h2⟩
  · intro y hy e he h1 h2 h3
    obtain ⟨z, hz, h4, h5⟩ := h.clos y hy e he h1 h2 h3
    obtain ⟨u, hu, h6, h7⟩ := key z hz
    exact ⟨u, hu, h6.trans h4, Int.le_trans h7 h5⟩
theorem einv_take {l : List S65} {size : Int} {sh : List Int} {frm now : Int} {out xs : List S71} {x : S71} (h : EInv l size sh frm now out (x :: xs)) (hx : x.f0 ∉ out.map (·.f0)) : EInv l size sh frm now (out ++ [x]) (pushAll l size sh (out ++ [x]) x (popL (x :: xs))) := by
  have hm : ∀ y, y ∈ popL (x :: xs) ↔ y ∈ xs := fun y => (popL_perm x xs).mem_iff
  have hq : ∀ y, y ∈ pushAll l size sh (out ++ [x]) x (popL (x :: xs)) ↔ y ∈ xs ∨ Pushed size sh (out ++ [x]) x (l.filter (fun e => decide (e.f1 = x.f0))) y := fun y => by
    unfold pushAll
    rw [mem_pushFold, hm]
  have key : ∀ y, (y ∈ out ∨ y ∈ x :: xs) → (y ∈ out ++ [x] ∨ y ∈ pushAll l size sh (out ++ [x]) x (popL (x :: xs))) := by
    rintro y (hy | hy)
    · exact .inl (by simp [hy])
    · rcases List.mem_cons.1 hy with rfl | hy
      · exact .inl (by simp)
      · exact .inr ((hq y).2 (.inl hy))
  have hleast : ∀ y ∈ xs, x.f1 ≤ y.f1 := fun y hy => by
    have := pop_least h.heap y hy
    unfold Ahead at this
    omega
  refine ⟨heap_pushFold _ _ (popL_heap h.heap), ?_, ?_, ?_, ?_, ?_⟩
  · rw [List.map_append, List.nodup_append]
    refine ⟨h.nod, by simp, ?_⟩
    intro a ha b hb
    simp at hb
    subst hb
    exact fun e => hx (e ▸ ha)
  · rintro y (hy | hy)
    · rcases List.mem_append.1 hy with hy | hy
      · exact h.sound y (.inl hy)
      · simp at hy
        subst hy
        exact h.sound y (.inr (by simp))
    · rcases (hq y).1 hy with hy | ⟨e, he, ⟨h1, h2, h3⟩, rfl⟩
      · exact h.sound y (.inr (by simp [hy]))
      · obtain ⟨es, hw, ht⟩ := h.sound x (.inr (by simp))
        rw [List.mem_filter, decide_eq_true_eq] at he
        refine ⟨es ++ [e], (way_append _ _ _ _ _).2 ⟨x.f0, hw, ?_⟩, ?_⟩
        · rw [ht]
          exact ⟨he.1, he.2, h3, h1, rfl⟩
        · rw [endT_append, ht]
          rfl
  · intro y hy z hz
    rcases (hq z).1 hz with hzz | ⟨e, he, ⟨h1, h2, h3⟩, rfl⟩
    · rcases List.mem_append.1 hy with hy | hy
      · exact h.mono y hy z (by simp [hzz])
      · simp at hy
        subst hy
        exact hleast z hzz
    · have hg := there_ge h1
      rcases List.mem_append.1 hy with hy | hy
      · exact Int.le_trans (h.mono y hy x (by simp)) hg.1
      · simp at hy
        subst hy
        exact hg.1
  · obtain ⟨y, hy, h1, h2⟩ := h.start
    exact ⟨y, key y hy, h1, h2⟩
  · intro y hy e he h1 h2 h3
    rcases List.mem_append.1 hy with hy | hy
    · obtain ⟨z, hz, h4⟩ := h.clos y hy e he h1 h2 h3
      exact ⟨z, key z hz, h4⟩
    · simp at hy
      subst hy
      by_cases ho : e.f2 ∈ (out ++ [y]).map (·.f0)
      · obtain ⟨z, hz, h4⟩ := List.mem_map.1 ho
        refine ⟨z, .inl hz, h4, ?_⟩
        have hg := there_ge h3
        rcases List.mem_append.1 hz with hz | hz
        · exact Int.le_trans (h.mono z hz y (by simp)) hg.1
        · simp at hz
          subst hz
          exact hg.1
      · exact ⟨⟨e.f2, thereAt e y.f1 size⟩, .inr ((hq _).2 (.inr ⟨e, List.mem_filter.2 ⟨he, by simp [h1]⟩, ⟨h3, ho, h2⟩, rfl⟩)), rfl, Int.le_refl _⟩
theorem einv_go {l : List S65} {size : Int} {sh : List Int} {frm now : Int} : ∀ (n : Nat) (out q r : List S71), EInv l size sh frm now out q → earlyGo l size sh n out q = some r → EInv l size sh frm now r []
  | 0, out, q, r, _, h => by simp [earlyGo] at h
  | n + 1, out, q, r, hI, h => by
    unfold earlyGo at h
    split at h
    case isFalse => exact absurd h (by simp)
    cases q with
    | nil =>
      injection h with h
      subst h
      exact hI
    | cons x xs =>
      simp only at h
      split at h
      · rename_i hx
        exact einv_go n _ _ r (einv_drop hI hx) h
      · rename_i hx
        exact einv_go n _ _ r (einv_take hI hx) h
theorem earlyGo_len {l : List S65} {size : Int} {sh : List Int} : ∀ (n : Nat) (out q r : List S71), earlyGo l size sh n out q = some r → r.length ≤ out.length + n
  | 0, out, q, r, h => by simp [earlyGo] at h
  | n + 1, out, q, r, h => by
    unfold earlyGo at h
    split at h
    case isFalse => exact absurd h (by simp)
    cases q with
    | nil =>
      injection h with h
      subst h
      omega
    | cons x xs =>
      simp only at h
      split at h
      · have := earlyGo_len n _ _ r h
        omega
      · have := earlyGo_len n _ _ r h
        simp at this
        omega
theorem early_all {l : List S65} {size : Int} {sh : List Int} {frm now : Int} {r : List S71} (h0 : 0 ≤ now) (hI : EInv l size sh frm now r []) : ∀ (es : List S65) (a t b : Int), (∃ x ∈ r, x.f0 = a ∧ x.f1 ≤ t) → Way l size sh es a t b → ∃ x ∈ r, x.f0 = b ∧ x.f1 ≤ endT size es t
  | [], a, t, b, hx, h => by cases h; exact hx
  | e :: es, a, t, b, ⟨x, hx, ha, ht⟩, h => by
    obtain ⟨h1, h2, h3, h4, h5⟩ := h
    have hx0 : 0 ≤ x.f1 := by
      obtain ⟨es', hw, he⟩ := hI.sound x (.inl hx)
      have := (endT_ge es' _ _ _ hw).1
      omega
    have hp := pass_mono h4 hx0 ht
    obtain ⟨y, hy, h6, h7⟩ := hI.clos x hx e h1 (h2.trans ha.symm) h3 hp.1
    refine early_all h0 hI es e.f2 _ b ⟨y, by simpa using hy, h6, Int.le_trans h7 hp.2⟩ h5
theorem atT_mem {l : List S71} (hn : (l.map (·.f0)).Nodup) (n x : Int) : atT l n = some x ↔ ∃ y ∈ l, y.f0 = n ∧ y.f1 = x := by
  induction l with
  | nil => simp [atT]
  | cons a r ih =>
    simp only [List.map_cons, List.nodup_cons] at hn
    simp only [atT]
    by_cases h : a.f0 = n
    · rw [if_pos h]
      constructor
      · intro g
        exact ⟨a, by simp, h, by injection g⟩
      · rintro ⟨y, hy, h1, h2⟩
        rcases List.mem_cons.1 hy with rfl | hy
        · rw [h2]
        · exact absurd (List.mem_map.2 ⟨y, hy, h1.trans h.symm⟩) hn.1
    · rw [if_neg h, ih hn.2]
      constructor
      · rintro ⟨y, hy, h1⟩
        exact ⟨y, by simp [hy], h1⟩
      · rintro ⟨y, hy, h1, h2⟩
        rcases List.mem_cons.1 hy with rfl | hy
        · exact absurd h1 h
        · exact ⟨y, hy, h1, h2⟩
def Earliest (l : List S65) (size : Int) (sh : List Int) (frm now n x : Int) : Prop := (∃ es, Way l size sh es frm now n ∧ endT size es now = x) ∧ ∀ es, Way l size sh es frm now n → x ≤ endT size es now
theorem early_ok {l : List S65} {frm now size : Int} {sh : List Int} (hl : l.length ≤ 1000000) (hs : sh.length ≤ 1000000) : ∃ r, early_Times.f l frm now size sh = some r ∧ r.length ≤ l.length + 2 ∧ (Asked l frm now size → (∀ n x, atT r n = some x ↔ Earliest l size sh frm now n x) ∧ ∀ es n, Way l size sh es frm now n → ∃ x, atT r n = some x ∧ x ≤ endT size es now) ∧ (¬ Asked l frm now size → r = []) := by
  unfold early_Times.f
  rw [if_pos ⟨hl, hs⟩]
  by_cases hA : Asked l frm now size
  · rw [if_pos hA]
    have hr : (restE l ([] : List S71)).length ≤ l.length := List.length_filter_le _ _
    obtain ⟨r, hr⟩ := earlyGo_some l hl size sh (l.length + 2) [] [⟨frm, now⟩] (by simp; omega) (by simp; omega) (by simp; omega)
    have hI := einv_go _ _ _ r (einv_start l size sh frm now) hr
    have hlen : r.length ≤ l.length + 2 := by have := earlyGo_len _ _ _ _ hr; simpa using this
    refine ⟨sortR r, by rw [hr]; rfl, by rw [(sortR_perm r).length_eq]; exact hlen, fun _ => ?_, fun h => absurd hA h⟩
    have hn : ((sortR r).map (·.f0)).Nodup := (((sortR_perm r).map (·.f0)).nodup_iff).2 hI.nod
    have h0 : 0 ≤ now := hA.2.1.1
    have hall : ∀ es n, Way l size sh es frm now n → ∃ x ∈ r, x.f0 = n ∧ x.f1 ≤ endT size es now := fun es n hw => by
      obtain ⟨x, hx, h1, h2⟩ := hI.start
      exact early_all h0 hI es frm now n ⟨x, by simpa using hx, h1, h2⟩ hw
    have hone : ∀ y ∈ r, ∀ z ∈ r, y.f0 = z.f0 → y.f1 = z.f1 := fun y hy z hz e => by
      have h1 := (atT_mem hI.nod y.f0 y.f1).2 ⟨y, hy, rfl, rfl⟩
      have h2 := (atT_mem hI.nod y.f0 z.f1).2 ⟨z, hz, e.symm, rfl⟩
      rw [h1] at h2
      injection h2
    refine ⟨?_, fun es n hw => ?_⟩
    rotate_left
    · obtain ⟨y, hy, h1, h2⟩ := hall es n hw
      exact ⟨y.f1, (atT_mem hn _ _).2 ⟨y, (sortR_perm r).mem_iff.2 hy, h1, rfl⟩, h2⟩
    intro n x
    rw [atT_mem hn]
    simp only [(sortR_perm r).mem_iff]
    constructor
    · rintro ⟨y, hy, rfl, rfl⟩
      refine ⟨hI.sound y (.inl hy), fun es hw => ?_⟩
      obtain ⟨z, hz, h1, h2⟩ := hall es _ hw
      rw [hone y hy z hz h1.symm]
      exact h2
    · rintro ⟨⟨es, hw, he⟩, hle⟩
      obtain ⟨y, hy, h1, h2⟩ := hall es n hw
      refine ⟨y, hy, h1, ?_⟩
      obtain ⟨es', hw', he'⟩ := hI.sound y (.inl hy)
      rw [h1] at hw'
      have := hle es' hw'
      omega
  · rw [if_neg hA]
    exact ⟨[], rfl, by simp, fun h => absurd h hA, fun _ => rfl⟩
end Go.Proofs.Ytijflnpgiegajaa.Q
end
section
namespace Go.Proofs.Ytijflnpgiegajaa.Q
open Go.RowKit Go.Proofs.YtijflnpgiegajaaW.PrintWords Go.Proofs.YtijflnpgiegajaaW.PrintLast Go.Proofs.YtijflnpgiegajaaW.PrintMore Go.Proofs.Ytijflnpgiegajaa.IM
set_option linter.unusedVariables false
set_option linter.unusedSimpArgs false
def shE (sh : List Int) (dst : Int) : List Int := sh.filter (fun x => decide (x ≠ dst))
theorem mem_shE {sh : List Int} {dst x : Int} : x ∈ shE sh dst ↔ x ∈ sh ∧ x ≠ dst := by
  unfold shE
  rw [List.mem_filter, decide_eq_true_eq]
def Told (T : List (Int × Int)) (n t : Int) : Prop := ∃ x, aget T n = some x ∧ t ≤ x
theorem told_later (m : List (Int × Int)) (k y n t : Int) : Told (laterM m k y) n t ↔ Told m n t ∨ (k = n ∧ t ≤ y) := by
  unfold laterM Told
  cases h : aget m k with
  | none =>
    simp only [aget_aset]
    by_cases e : k = n
    · subst e
      rw [if_pos rfl, h]
      simp
    · rw [if_neg e]
      simp [e]
  | some had =>
    simp only
    split
    · simp only [aget_aset]
      by_cases e : k = n
      · subst e
        rw [if_pos rfl, h]
        simp
        omega
      · rw [if_neg e]
        simp [e]
    · by_cases e : k = n
      · subst e
        rw [h]
        simp
        omega
      · simp [e]
def PartE (T : List (Int × Int)) (dst size : Int) (sh : List Int) (n t : Int) (e : S65) : Prop := e.f1 = n ∧ e.f1 ≠ dst ∧ e.f2 ∉ shE sh dst ∧ ∃ b, aget T e.f2 = some b ∧ LateP e b size ∧ t ≤ lateAt e b size
theorem told_stepE (T : List (Int × Int)) (dst size : Int) (sh : List Int) (m : List (Int × Int)) (e : S65) (n t : Int) : Told (stepE T dst size sh m e) n t ↔ Told m n t ∨ PartE T dst size sh n t e := by
  unfold stepE PartE
  cases h : aget T e.f2 with
  | none => simp
  | some b =>
    simp only
    have hs : e.f2 ∉ shE sh dst ↔ ¬ (e.f2 ≠ dst ∧ e.f2 ∈ sh) := by
      rw [mem_shE]
      exact ⟨fun g q => g ⟨q.2, q.1⟩, fun g q => g ⟨q.2, q.1⟩⟩
    rw [hs]
    split
    · rename_i hc
      constructor
      · exact .inl
      · rintro (g | ⟨_, h1, h2, _⟩)
        · exact g
        · exact absurd hc (fun q => q.elim h1 h2)
    · rename_i hc
      split
      · rename_i hl
        rw [told_later]
        constructor
        · rintro (g | ⟨h1, h2⟩)
          · exact .inl g
          · exact .inr ⟨h1, fun q => hc (.inl q), fun q => hc (.inr q), b, rfl, hl, h2⟩
        · rintro (g | ⟨h1, _, _, b', hb, hl', h2⟩)
          · exact .inl g
          · injection hb with hb
            subst hb
            exact .inr ⟨h1, h2⟩
      · rename_i hl
        constructor
        · exact .inl
        · rintro (g | ⟨_, _, _, b', hb, hl', _⟩)
          · exact g
          · injection hb with hb
            subst hb
            exact absurd hl' hl
theorem told_fold (T : List (Int × Int)) (dst size : Int) (sh : List Int) (n t : Int) : ∀ (es : List S65) (m : List (Int × Int)), Told (es.foldl (stepE T dst size sh) m) n t ↔ Told m n t ∨ ∃ e ∈ es, PartE T dst size sh n t e
  | [], m => by simp
  | e :: es, m => by
    rw [List.foldl_cons, told_fold T dst size sh n t es, told_stepE]
    simp only [List.mem_cons, exists_eq_or_imp]
    exact or_assoc
theorem aget_later_ne (m : List (Int × Int)) (k y n : Int) (h : k ≠ n) : aget (laterM m k y) n = aget m n := by
  unfold laterM
  cases aget m k with
  | none => rw [aget_aset, if_neg h]
  | some had =>
    simp only
    split
    · rw [aget_aset, if_neg h]
    · rfl
theorem aget_stepE_dst (T : List (Int × Int)) (dst size : Int) (sh : List Int) (m : List (Int × Int)) (e : S65) : aget (stepE T dst size sh m e) dst = aget m dst := by
  unfold stepE
  split
  · rfl
  · split
    · rfl
    · rename_i hc
      split
      · exact aget_later_ne _ _ _ _ (fun q => hc (.inl q))
      · rfl
theorem aget_fold_dst (T : List (Int × Int)) (dst size : Int) (sh : List Int) : ∀ (es : List S65) (m : List (Int × Int)), aget (es.foldl (stepE T dst size sh) m) dst = aget m dst
  | [], m => rfl
  | e :: es, m => by rw [List.foldl_cons, aget_fold_dst T dst size sh es, aget_stepE_dst]
def TimesP (m : List (Int × Int)) : Prop := ∀ n x, aget m n = some x → TimeP x
theorem times_later {m : List (Int × Int)} (h : TimesP m) (k : Int) {y : Int} (hy : TimeP y) : TimesP (laterM m k y) := fun n x hx => by
  unfold laterM at hx
  cases hq : aget m k with
  | none =>
    rw [hq] at hx
    simp only [aget_aset] at hx
    split at hx
    · injection hx with hx; exact hx ▸ hy
    · exact h n x hx
  | some had =>
    rw [hq] at hx
    simp only at hx
    split at hx
    · rw [aget_aset] at hx
      split at hx
      · injection hx with hx; exact hx ▸ hy
      · exact h n x hx
    · exact h n x hx
theorem lateAt_time {e : S65} {b size : Int} (h : LateP e b size) : TimeP (lateAt e b size) := by
  have htb := takes_bd h.2.2.1 h.2.1
  unfold LateP lateAt TimeP at *
  obtain ⟨h1, h2, h3, h4, h5⟩ := h
  obtain ⟨_, _, _, g3, g4, g6, _, _, _⟩ := id h3
  omega
theorem times_fold {T : List (Int × Int)} (dst size : Int) (sh : List Int) : ∀ (es : List S65) (m : List (Int × Int)), TimesP m → TimesP (es.foldl (stepE T dst size sh) m)
  | [], m, h => h
  | e :: es, m, h => by
    rw [List.foldl_cons]
    refine times_fold dst size sh es _ ?_
    unfold stepE
    split
    · exact h
    · split
      · exact h
      · split
        · rename_i hl
          exact times_later h _ (lateAt_time hl)
        · exact h
def Reach (l : List S65) (size : Int) (sh : List Int) (dst b : Int) (h : Nat) (n t : Int) : Prop := ∃ es, es.length ≤ h ∧ Way l size (shE sh dst) es n t dst ∧ endT size es t ≤ b
theorem late_inv {l : List S65} {size : Int} {sh : List Int} {dst b : Int} (hb : TimeP b) : ∀ h : Nat, aget (itT l dst size sh h [(dst, b)]) dst = some b ∧ TimesP (itT l dst size sh h [(dst, b)]) ∧ ∀ n t, 0 ≤ t → (Told (itT l dst size sh h [(dst, b)]) n t ↔ Reach l size sh dst b h n t)
  | 0 => by
    refine ⟨by simp [itT, aget], ?_, ?_⟩
    · intro n x hx
      simp only [itT, aget] at hx
      split at hx
      · injection hx with hx; exact hx ▸ hb
      · exact absurd hx (by simp)
    · intro n t ht
      simp only [itT, Told, aget]
      constructor
      · rintro ⟨x, hx, hle⟩
        split at hx
        · rename_i he
          injection hx with hx
          subst hx
          exact ⟨[], by simp, he.symm, hle⟩
        · exact absurd hx (by simp)
      · rintro ⟨es, hl, hw, he⟩
        cases es with
        | nil =>
          cases hw
          exact ⟨b, by simp, he⟩
        | cons e r => simp at hl
  | h + 1 => by
    obtain ⟨h1, h2, h3⟩ := late_inv (l := l) (size := size) (sh := sh) (dst := dst) hb h
    have hd : aget (itT l dst size sh (h + 1) [(dst, b)]) dst = some b := by
      show aget (stepT l dst size sh _) dst = _
      unfold stepT
      rw [aget_fold_dst, h1]
    refine ⟨hd, times_fold dst size sh l _ h2, fun n t ht => ?_⟩
    by_cases hn : n = dst
    · subst hn
      unfold Told
      rw [hd]
      constructor
      · rintro ⟨x, hx, hle⟩
        injection hx with hx
        subst hx
        exact ⟨[], by simp, rfl, hle⟩
      · rintro ⟨es, _, hw, he⟩
        exact ⟨b, rfl, Int.le_trans (endT_ge es _ _ _ hw).1 he⟩
    · show Told (stepT l dst size sh _) n t ↔ _
      unfold stepT
      rw [told_fold, h3 n t ht]
      constructor
      · rintro (⟨es, hl, hw, he⟩ | ⟨e, hel, he1, _, he2, b', hb', hlp, hle⟩)
        · exact ⟨es, by omega, hw, he⟩
        · have hp := (pass_late ht (h2 _ _ hb')).2 ⟨hlp, hle⟩
          have hg := there_ge hp.1
          obtain ⟨es, hl, hw, he⟩ := (h3 e.f2 _ (by omega)).1 ⟨b', hb', hp.2⟩
          exact ⟨e :: es, by simp; omega, ⟨hel, he1, he2, hp.1, hw⟩, he⟩
      · rintro ⟨es, hl, hw, he⟩
        cases es with
        | nil => exact absurd hw hn
        | cons e r =>
          obtain ⟨g1, g2, g3, g4, g5⟩ := hw
          have hg := there_ge g4
          obtain ⟨b', hb', hle⟩ := (h3 e.f2 (thereAt e t size) (by omega)).2 ⟨r, by simp at hl; omega, g5, he⟩
          have hq := (pass_late ht (h2 _ _ hb')).1 ⟨g4, hle⟩
          exact .inr ⟨e, g1, g2, by rw [g2]; exact hn, g3, b', hb', hq⟩
theorem few_spec {l : List S65} {size : Int} {sh : List Int} {dst b frm now : Int} (hb : TimeP b) (h0 : 0 ≤ now) : ∀ (k h : Nat), (∀ i, i < h → ¬ Reach l size sh dst b i frm now) →
    (∃ j, j < h + k ∧ Reach l size sh dst b j frm now ∧ (∀ i, i < j → ¬ Reach l size sh dst b i frm now) ∧ fewGo l dst size sh frm now k h (itT l dst size sh h [(dst, b)]) = ((j : Int), true)) ∨
    ((∀ i, i < h + k → ¬ Reach l size sh dst b i frm now) ∧ fewGo l dst size sh frm now k h (itT l dst size sh h [(dst, b)]) = (0, false))
  | 0, h, hn => .inr ⟨hn, rfl⟩
  | k + 1, h, hn => by
    have hi := (late_inv (l := l) (size := size) (sh := sh) (dst := dst) hb h).2.2 frm now h0
    have step : ¬ Reach l size sh dst b h frm now → (∀ i, i < h + 1 → ¬ Reach l size sh dst b i frm now) := fun hr i hi => by
      by_cases e : i = h
      · rw [e]; exact hr
      · exact hn i (by omega)
    unfold fewGo
    cases hq : aget (itT l dst size sh h [(dst, b)]) frm with
    | none =>
      have hr : ¬ Reach l size sh dst b h frm now := fun g => by
        obtain ⟨x, hx, _⟩ := hi.2 g
        rw [hq] at hx
        exact absurd hx (by simp)
      have ih := few_spec hb h0 k (h + 1) (step hr)
      rw [show h + (k + 1) = h + 1 + k from by omega]
      exact ih
    | some x =>
      simp only
      by_cases hx : now ≤ x
      · rw [if_pos hx]
        exact .inl ⟨h, by omega, hi.1 ⟨x, hq, hx⟩, hn, rfl⟩
      · rw [if_neg hx]
        have hr : ¬ Reach l size sh dst b h frm now := fun g => by
          obtain ⟨y, hy, hle⟩ := hi.2 g
          rw [hq] at hy
          injection hy with hy
          omega
        have ih := few_spec hb h0 k (h + 1) (step hr)
        rw [show h + (k + 1) = h + 1 + k from by omega]
        exact ih
theorem way_from {l : List S65} {size : Int} {sh : List Int} (n : Int) : ∀ (es : List S65) (a t b : Int), Way l size sh es a t b → n ∈ a :: es.map (·.f2) → ∃ xs zs, es = xs ++ zs ∧ Way l size sh xs a t n ∧ Way l size sh zs n (endT size xs t) b
  | [], a, t, b, h, hn => by
    simp at hn
    subst hn
    exact ⟨[], [], rfl, rfl, h⟩
  | e :: r, a, t, b, h, hn => by
    rcases List.mem_cons.1 hn with rfl | hn
    · exact ⟨[], e :: r, rfl, rfl, h⟩
    · obtain ⟨h1, h2, h3, h4, h5⟩ := h
      obtain ⟨xs, zs, he, hx, hz⟩ := way_from n r e.f2 _ b h5 (by simpa using hn)
      exact ⟨e :: xs, zs, by rw [he]; rfl, ⟨h1, h2, h3, h4, hx⟩, hz⟩
theorem way_last {l : List S65} {size : Int} {sh : List Int} : ∀ (es : List S65) (a t b : Int), Way l size sh es a t b → (a :: es.map (·.f2)).getLast? = some b
  | [], a, t, b, h => by cases h; rfl
  | e :: r, a, t, b, h => by
    have := way_last r e.f2 _ b h.2.2.2.2
    rw [List.map_cons, List.getLast?_cons_cons]
    exact this
theorem way_simple {l : List S65} {size : Int} {sh : List Int} : ∀ (es : List S65) (a t b : Int), 0 ≤ t → Way l size sh es a t b → ∃ es', es'.length ≤ es.length ∧ Way l size sh es' a t b ∧ endT size es' t ≤ endT size es t ∧ (a :: es'.map (·.f2)).Nodup ∧ (es' = es ∨ es'.length < es.length)
  | [], a, t, b, _, h => ⟨[], Nat.le_refl _, h, Int.le_refl _, by simp, .inl rfl⟩
  | e :: r, a, t, b, h0, h => by
    obtain ⟨h1, h2, h3, h4, h5⟩ := h
    have hg := there_ge h4
    obtain ⟨r', hl, hw, he, hn, hq⟩ := way_simple r e.f2 _ b (by omega) h5
    by_cases ha : a ∈ e.f2 :: r'.map (·.f2)
    · obtain ⟨xs, zs, hz, hx, hzw⟩ := way_from a r' e.f2 _ b hw ha
      have hxe := (endT_ge xs _ _ _ hx).1
      have hm := way_mono zs a t _ b h0 (Int.le_trans hg.1 hxe) hzw
      have hlast := way_last xs _ _ _ hx
      refine ⟨zs, by rw [hz] at hl; simp at hl ⊢; omega, hm.1, ?_, ?_, .inr (by rw [hz] at hl; simp at hl ⊢; omega)⟩
      · refine Int.le_trans hm.2 ?_
        rw [← endT_append, ← hz]
        exact he
      · have hsp : e.f2 :: r'.map (·.f2) = (e.f2 :: xs.map (·.f2)) ++ zs.map (·.f2) := by rw [hz]; simp
        rw [hsp] at hn
        have hd : e.f2 :: xs.map (·.f2) = (e.f2 :: xs.map (·.f2)).dropLast ++ [a] := by
          have h9 := List.dropLast_concat_getLast (l := e.f2 :: xs.map (·.f2)) (by simp)
          rw [List.getLast?_eq_some_getLast (by simp)] at hlast
          injection hlast with hlast
          rw [hlast] at h9
          exact h9.symm
        rw [hd, List.append_assoc] at hn
        exact (List.nodup_append.1 hn).2.1
    · exact ⟨e :: r', by simp; exact hl, ⟨h1, h2, h3, h4, hw⟩, he, by rw [List.map_cons, List.nodup_cons]; exact ⟨ha, hn⟩, hq.elim (fun q => .inl (by rw [q])) (fun q => .inr (by simp; exact q))⟩
theorem nodup_le : ∀ (es l : List Int), es.Nodup → (∀ e ∈ es, e ∈ l) → es.length ≤ l.length
  | [], l, _, _ => Nat.zero_le _
  | e :: es, l, hn, hs => by
    rw [List.nodup_cons] at hn
    have hl := List.length_erase_of_mem (hs e (by simp))
    have hp := List.length_pos_of_mem (hs e (by simp))
    have := nodup_le es (l.erase e) hn.2 (fun x hx => (List.mem_erase_of_ne (fun q => hn.1 (by rw [← q]; exact hx))).2 (hs x (by simp [hx])))
    simp
    omega
theorem way_starts {l : List S65} {size : Int} {sh : List Int} : ∀ (es : List S65) (a t b : Int), Way l size sh es a t b → es.map (·.f1) = (a :: es.map (·.f2)).dropLast
  | [], a, t, b, _ => rfl
  | e :: r, a, t, b, h => by
    rw [List.map_cons, List.map_cons, List.dropLast_cons_cons, way_starts r e.f2 _ b h.2.2.2.2, h.2.1]
theorem way_short {l : List S65} {size : Int} {sh : List Int} {es : List S65} {a t b : Int} (h : Way l size sh es a t b) (hn : (a :: es.map (·.f2)).Nodup) : es.length ≤ l.length := by
  have h1 : (es.map (·.f1)).Nodup := by
    rw [way_starts es a t b h]
    exact hn.sublist (List.dropLast_sublist _)
  have := nodup_le (es.map (·.f1)) (l.map (·.f1)) h1 (fun x hx => by
    obtain ⟨e, he, rfl⟩ := List.mem_map.1 hx
    exact List.mem_map.2 ⟨e, (way_all es _ _ _ h e he).1, rfl⟩)
  simpa using this
end Go.Proofs.Ytijflnpgiegajaa.Q
end
section
namespace Go.Proofs.Ytijflnpgiegajaa.Q
open Go.RowKit Go.Proofs.YtijflnpgiegajaaW.PrintWords Go.Proofs.YtijflnpgiegajaaW.PrintLast Go.Proofs.YtijflnpgiegajaaW.PrintMore Go.Proofs.Ytijflnpgiegajaa.IM Go.Proofs.Ytijflnpgiegajaa.Ev
set_option linter.unusedVariables false
theorem Kp.o {w w' : World} {b g : Nat} (h : Kp w w' b g) : KpO w w' b (some g) := ⟨h.os, h.tape, h.output, h.size, fun k hk h1 h2 => h.block k hk h1 (fun e => h2 (by rw [e]))⟩
theorem KpO.below_of {w0 w w' : World} {b : Nat} {o : Option Nat} (h : KpO w w' b o) (hB : Below w0.heap.size w0 w) (h1 : w0.heap.size ≤ b) (h2 : ∀ g, o = some g → w0.heap.size ≤ g) : Below w0.heap.size w0 w' :=
  ⟨h.os.trans hB.os, h.tape.trans hB.tape, h.output.trans hB.output, Nat.le_trans hB.size h.size, fun k hk => (h.block k (Nat.lt_of_lt_of_le hk hB.size) (by omega) (fun e => by have := h2 k e.symm; omega)).trans (hB.block k hk)⟩
theorem KpO.imap {w w' : World} {b bm : Nat} {o : Option Nat} {m : List (Int × Value)} (h : KpO w w' b o) (H : IMap w bm m) (h1 : bm ≠ b) (h2 : some bm ≠ o) : IMap w' bm m := by
  obtain ⟨es, clk, hb, r⟩ := H
  exact ⟨es, clk, (h.block bm (Array.getElem?_eq_some_iff.1 hb).1 h1 h2).trans hb, r⟩
theorem KpO.R {α : Type} {d : Kd α} {e base b : Nat} {ok : Nat → Prop} {v : Value} {xs : List α} {w w' : World} {o : Option Nat} (h : KpO w w' b o) (hE : d.E = []) (H : d.R e w base ok v xs) (h1 : some b ≠ v.ownBlock) (h2 : ∀ g, o = some g → some g ≠ v.ownBlock) : d.R e w' base ok v xs :=
  Kd.R_mono (Kd.R_step (Kd.R_tight hE H) (fun k hk hlt => h.block k hlt (fun e => h1 (by rw [← e]; exact hk)) (fun e => h2 k e.symm hk))) (fun k hk => H.1 k hk.symm)
end Go.Proofs.Ytijflnpgiegajaa.Q
end
section
namespace Go.Proofs.Ytijflnpgiegajaa.Q
open Go.RowKit Go.Proofs.YtijflnpgiegajaaW.PrintWords Go.Proofs.YtijflnpgiegajaaW.PrintLast Go.Proofs.YtijflnpgiegajaaW.PrintMore Go.Proofs.Ytijflnpgiegajaa.IM Go.Proofs.Ytijflnpgiegajaa.Ev
set_option linter.unusedVariables false
set_option linter.unusedSimpArgs false
structure ESt (w0 w : World) (hq g cap bm bc : Nat) (v10 : Value) (out q : List S71) (t : List (Int × Int)) (m : List (Int × Bool)) : Prop where
  O : Kd.R k71 71 w w0.heap.size (fun _ => True) v10 out
  Q : HeapW w w0.heap.size hq g cap q
  D : some g ≠ v10.ownBlock
  M : IMap w bm (t.map fun p => (p.1, Value.int .i64 p.2))
  C : IMap w bc (m.map fun p => (p.1, Value.bool p.2))
  B : Below w0.heap.size w0 w
  H : w0.heap.size ≤ hq
  BM : w0.heap.size ≤ bm
  NM : bc ≠ bm
structure EX (w : World) (hq g : Nat) (v10 : Value) (gr : Nat) (x : S71) : Prop where
  G : w.heap[gr]? = some (.cells #[.int .i64 x.f0, .int .i64 x.f1] 71 (0, 0))
  GH : gr ≠ hq
  GG : gr ≠ g
  GO : some gr ≠ v10.ownBlock
structure EE (w : World) (b hq g : Nat) (ve : Value) (es : List S65) : Prop where
  E : Kd.R k65 65 w b (fun _ => True) ve es
  EG : some g ≠ ve.ownBlock
section
variable {w0 w w' : World} {hq g cap bm bc : Nat} {v10 : Value} {out q : List S71} {t : List (Int × Int)} {m : List (Int × Bool)} {gr : Nat} {x : S71} {ve : Value} {es : List S65} {b : Nat}
theorem ESt.g0 (h : ESt w0 w hq g cap bm bc v10 out q t m) : w0.heap.size ≤ g := Kd.R_base h.Q.row g rfl
theorem ESt.ho (h : ESt w0 w hq g cap bm bc v10 out q t m) : some hq ≠ v10.ownBlock := Kd.R_ne h.O h.Q.hdr (by decide)
theorem ESt.mh (h : ESt w0 w hq g cap bm bc v10 out q t m) : bm ≠ hq := imap_ne_blk h.M h.Q.hdr
theorem ESt.ch (h : ESt w0 w hq g cap bm bc v10 out q t m) : bc ≠ hq := imap_ne_blk h.C h.Q.hdr
theorem ESt.mg (h : ESt w0 w hq g cap bm bc v10 out q t m) : some bm ≠ some g := imap_ne h.M h.Q.row
theorem ESt.cg (h : ESt w0 w hq g cap bm bc v10 out q t m) : some bc ≠ some g := imap_ne h.C h.Q.row
theorem ESt.below (h : ESt w0 w hq g cap bm bc v10 out q t m) (hb : Below w.heap.size w w') : ESt w0 w' hq g cap bm bc v10 out q t m :=
  ⟨Kd.R_below h.O hb, h.Q.below hb, h.D, h.M.below hb, h.C.below hb, below_step h.B hb, h.H, h.BM, h.NM⟩
theorem EX.below (h : EX w hq g v10 gr x) (hb : Below w.heap.size w w') : EX w' hq g v10 gr x := ⟨blk_below h.G hb, h.GH, h.GG, h.GO⟩
theorem EE.below (h : EE w b hq g ve es) (hb : Below w.heap.size w w') : EE w' b hq g ve es := ⟨Kd.R_below h.E hb, h.EG⟩
theorem EX.c0 (h : EX w hq g v10 gr x) : w.cell? ⟨gr, 0, none⟩ = some (.int .i64 x.f0) := (blk_cell h.G 0).trans rfl
theorem EX.c1 (h : EX w hq g v10 gr x) : w.cell? ⟨gr, 1, none⟩ = some (.int .i64 x.f1) := (blk_cell h.G 1).trans rfl
theorem ESt.push {g' cap' : Nat} {q' : List S71} (h : ESt w0 w hq g cap bm bc v10 out q t m) (hk : KpO w w' hq (some g)) (hh : HeapW w' w0.heap.size hq g' cap' q') (ho : some g = some g' ∨ w.heap.size ≤ g') : ESt w0 w' hq g' cap' bm bc v10 out q' t m where
  O := hk.R rfl h.O h.ho (fun k e => by injection e with e; rw [← e]; exact h.D)
  Q := hh
  D := fun e => by
    rcases ho with ho | ho
    · injection ho with ho
      rw [← ho] at e
      exact h.D e
    · have := Kd.R_lt h.O g' e.symm
      omega
  M := hk.imap h.M h.mh h.mg
  C := hk.imap h.C h.ch h.cg
  B := hk.below_of h.B h.H (fun k e => by injection e with e; rw [← e]; exact h.g0)
  H := h.H
  BM := h.BM
  NM := h.NM
theorem EX.push {g' : Nat} (h : EX w hq g v10 gr x) (hk : KpO w w' hq (some g)) (ho : some g = some g' ∨ w.heap.size ≤ g') : EX w' hq g' v10 gr x where
  G := (hk.block gr (Array.getElem?_eq_some_iff.1 h.G).1 h.GH (fun e => by injection e with e; exact h.GG e)).trans h.G
  GH := h.GH
  GG := fun e => by
    rcases ho with ho | ho
    · injection ho with ho
      exact h.GG (e.trans ho.symm)
    · have := (Array.getElem?_eq_some_iff.1 h.G).1
      omega
  GO := h.GO
theorem EE.push {g' : Nat} (h : EE w b hq g ve es) (hH : w.heap[hq]? = some (.cells #[v10] 110 (0, 0))) (hk : KpO w w' hq (some g)) (ho : some g = some g' ∨ w.heap.size ≤ g') : EE w' b hq g' ve es where
  E := hk.R rfl h.E (Kd.R_ne h.E hH (by decide)) (fun k e => by injection e with e; rw [← e]; exact h.EG)
  EG := fun e => by
    rcases ho with ho | ho
    · injection ho with ho
      rw [← ho] at e
      exact h.EG e
    · have := Kd.R_lt h.E g' e.symm
      omega
theorem ESt.store {t' : List (Int × Int)} (h : ESt w0 w hq g cap bm bc v10 out q t m) (hm : IMap w' bm (t'.map fun p => (p.1, Value.int .i64 p.2))) (hg : w.grownBy w' (some bm)) : ESt w0 w' hq g cap bm bc v10 out q t' m where
  O := R_mapstore h.O h.M hg
  Q := ⟨blk_mapstore h.Q.hdr h.M hg, R_mapstore h.Q.row h.M hg⟩
  D := h.D
  M := hm
  C := h.C.kept hg (fun e => by injection e with e; exact h.NM e)
  B := below_grown_one h.B hg h.BM
  H := h.H
  BM := h.BM
  NM := h.NM
theorem EX.store (h : EX w hq g v10 gr x) {mm : List (Int × Value)} (hM : IMap w bm mm) (hg : w.grownBy w' (some bm)) : EX w' hq g v10 gr x := ⟨blk_mapstore h.G hM hg, h.GH, h.GG, h.GO⟩
theorem ESt.app {v4 : Value} (h : ESt w0 w hq g cap bm bc v10 out q t m) (ho : Kd.R k71 71 w' w0.heap.size (fun _ => True) v4 (out ++ [x])) (hb : Below w0.heap.size w0 w') (hg : w.grownBy w' v10.ownBlock) (hat : v4.ownBlock = v10.ownBlock ∨ ∃ k, v4.ownBlock = some k ∧ w.heap.size ≤ k) : ESt w0 w' hq g cap bm bc v4 (out ++ [x]) q t m where
  O := ho
  Q := ⟨blk_grown h.Q.hdr hg h.ho, Kd.R_grown2 h.Q.row rfl hg (fun k hk e => h.D (by rw [hk]; exact e.symm))⟩
  D := fun e => by
    rcases hat with ha | ⟨k, ha, hk⟩
    · exact h.D (e.trans ha)
    · rw [ha] at e
      injection e with e
      have := h.Q.lt.2
      omega
  M := h.M.kept hg (imap_ne h.M h.O)
  C := h.C.kept hg (imap_ne h.C h.O)
  B := hb
  H := h.H
  BM := h.BM
  NM := h.NM
theorem EX.app {v4 : Value} (h : EX w hq g v10 gr x) (hg : w.grownBy w' v10.ownBlock) (hat : v4.ownBlock = v10.ownBlock ∨ ∃ k, v4.ownBlock = some k ∧ w.heap.size ≤ k) : EX w' hq g v4 gr x where
  G := blk_grown h.G hg h.GO
  GH := h.GH
  GG := h.GG
  GO := fun e => by
    rcases hat with ha | ⟨k, ha, hk⟩
    · exact h.GO (e.trans ha)
    · rw [ha] at e
      injection e with e
      have := (Array.getElem?_eq_some_iff.1 h.G).1
      omega
end
end Go.Proofs.Ytijflnpgiegajaa.Q
end
section
namespace Go.Proofs.Ytijflnpgiegajaa.Q
open Go.RowKit Go.Proofs.YtijflnpgiegajaaW.PrintWords Go.Proofs.YtijflnpgiegajaaW.PrintLast Go.Proofs.YtijflnpgiegajaaW.PrintMore Go.Proofs.Ytijflnpgiegajaa.IM Go.Proofs.Ytijflnpgiegajaa.Ev
set_option linter.unusedVariables false
set_option linter.unusedSimpArgs false
def Closed (m : List (Int × Bool)) (s : List Int) : Prop := ∀ n, aget m n = if n ∈ s then some true else none
theorem closed_step {m : List (Int × Bool)} {s : List Int} (h : Closed m s) (x : Int) : Closed (aset m x true) (s ++ [x]) := fun n => by
  rw [aget_aset, h n]
  by_cases he : x = n
  · simp [he]
  · simp [he, show ¬ n = x from fun e => he e.symm]
def Reached (m : List (Int × Int)) (out : List S71) : Prop := ∀ n, (aget m n).isSome = decide (n ∈ out.map (·.f0))
theorem reached_step {m : List (Int × Int)} {out : List S71} (h : Reached m out) (x : S71) : Reached (aset m x.f0 x.f1) (out ++ [x]) := fun n => by
  rw [aget_aset]
  by_cases he : x.f0 = n
  · simp [he]
  · rw [if_neg he, h n]
    simp [show ¬ n = x.f0 from fun e => he e.symm]
theorem zero4e : (Try.prog.info? 4).map (fun i => i.zero) = some (some (.bool false)) := by kernel_rfl
theorem pushE_eq {size : Int} {sh : List Int} {out : List S71} {r : S71} {q : List S71} {e : S65} {okb hadb clb : Bool} {th : Int} (h1 : okb = decide (PassP e r.f1 size)) (h2 : hadb = decide (e.f2 ∈ out.map (·.f0))) (h3 : clb = decide (e.f2 ∈ sh)) (ht : okb = true → th = thereAt e r.f1 size) :
    pushE size sh out r q e = if okb = true ∧ hadb = false ∧ clb = false then pushL q ⟨e.f2, th⟩ else q := by
  unfold pushE
  subst h1 h2 h3
  by_cases a : PassP e r.f1 size
  · rw [ht (decide_eq_true a)]
    simp only [decide_eq_true_eq, decide_eq_false_iff_not]
  · rw [if_neg (fun g => a g.1), if_neg (fun g => a (by simpa using g.1))]
theorem pass_three (e : S65) (t size : Int) : ∃ (sd th : Int) (okb : Bool), hop_Pass.f 1 e.f0 e.f1 e.f2 e.f3 e.f4 e.f5 e.f6 e.f7 t size = some (sd, th, okb) ∧ okb = decide (PassP e t size) ∧ (okb = true → th = thereAt e t size) := by
  have h := hop_Pass_eq 0 e t size
  by_cases a : PassP e t size
  · rw [if_pos a] at h
    exact ⟨_, _, _, h, by simp [a], fun _ => rfl⟩
  · rw [if_neg a] at h
    exact ⟨_, _, _, h, by simp [a], fun q => by simp at q⟩
theorem lit71 {W : World} {g : Nat} {x : S71} (h : W.heap[g]? = some (.cells #[.int .i64 x.f0, .int .i64 x.f1] 71 (0, 0))) : Kd.C k71 W (some ⟨g, 0, none⟩) 1 [x] := by
  refine ⟨rfl, by decide, fun _ => ⟨⟨g, 0, none⟩, rfl, fun j p hj => ?_⟩⟩
  have hj2 : j < 1 := (List.getElem?_eq_some_iff.1 hj).1
  obtain rfl : j = 0 := by omega
  injection hj with hj
  subst hj
  refine ⟨[.int .i64 x.f0, .int .i64 x.f1], rfl, k71_mk W x, fun i u hu => ?_⟩
  have hi : i < 2 := (List.getElem?_eq_some_iff.1 hu).1
  match i, hi with
  | 0, _ => injection hu with hu; subst hu; exact (blk_cell h 0).trans rfl
  | 1, _ => injection hu with hu; subst hu; exact (blk_cell h 1).trans rfl
set_option maxHeartbeats 8000000 in
set_option maxRecDepth 100000 in
theorem early_Times.calls (A0 : Option Addr) (c0 : Nat) (l0 : List (S65)) (a1 : Int) (a2 : Int) (a3 : Int) (A4 : Option Addr) (c4 : Nat) (l4 : List Int) (r : List (S71)) (w : World) (hr0 : Kd.C k65 w A0 l0.length l0) (hc0 : l0.length ≤ c0) (hr4 : Kd.C (Kd.int .i64) w A4 l4.length l4) (hc4 : l4.length ≤ c4) (h : early_Times.f l0 a1 a2 a3 l4 = some r) :
    Calls Try.prog 21 #[.slice A0 l0.length c0, .int .i64 a1, .int .i64 a2, .int .i64 a3, .slice A4 l4.length c4] w fun e w' => ∃ v0_ : Value, e = .returned (v0_) ∧ Kd.R k71 71 w' w.heap.size (fun _ => True) v0_ r ∧ Below w.heap.size w w' := by
  unfold early_Times.f at h
  split at h
  case isFalse => exact absurd h (by simp)
  rename_i hlen
  have hask := early_asked_eq l0 hlen.1 (l0.length + 2) (by omega) a1 a2 a3
  have HR0 := Aside0.mk hr0
  have HC0 := Aside0.mk hc0
  have HR4 := Aside0.mk hr4
  have HC4 := Aside0.mk hc4
  have HLN := Aside0.mk hlen
  have HB := Aside0.mk (Below.refl w.heap.size w)
  clear hr0 hc0 hr4 hc4 hlen
  by_cases hA : Asked l0 a1 a2 a3
  · rw [decide_eq_true hA] at hask
    rw [if_pos hA] at h
    have HAS := Aside0.mk hask
    have HH := Aside0.mk h
    have hl4 := HLN.out.2
    clear hask h hA
    go_enter Try.func21, Try.ntmps21
    go_wp2_with (first
      | (go_at_call 41; go_loud (refine (early_asked.calls (l0.length + 2) A0 c0 l0 a1 a2 a3 true _ HR0.out HC0.out HAS.out).mono ?_); rintro e w1 ⟨rfl, hb⟩; have HB1 := Aside0.mk hb; clear hb HB)
      | ((with_reducible refine gate_dst (N := 33) rfl ?_); go_loud (refine im_make 33 rfl rfl rfl ?_); intro bc w2 hb hm hbw hs; have HC2 := Aside0.mk hm; have HGC := Aside0.mk (show w.heap.size ≤ bc from Nat.le_trans HB1.out.size (Nat.le_of_eq hb.symm)); have HB2 := Aside0.mk (below_step HB1.out hbw); clear hb hm hbw hs HB1))
    go_loopg [13, 36] l4.length (fun kq _ v36 w' => ∃ (i : Nat) (m : List (Int × Bool)), v36 = .int .i64 (i : Int) ∧ Aside0 (i + kq = l4.length) ∧ Aside0 (Closed m (l4.take i)) ∧ Aside0 (IMap w' bc (m.map fun p => (p.1, Value.bool p.2))) ∧ Aside0 (Below w.heap.size w w'))
    case atStart => exact ⟨0, [], rfl, ⟨by omega⟩, ⟨fun n => rfl⟩, HC2, HB2⟩
    case round =>
      clear HC2 HB2
      obtain ⟨i, m, rfl, HI, HM, HC, HB⟩ := hrel
      cases gk with
      | zero =>
        have hi : ¬ ((i : Nat) : Int) < (l4.length : Int) := by have := HI.out; omega
        have HCL := Aside0.mk (show Closed m l4 by have := HM.out; rw [List.take_of_length_le (by have := HI.out; omega)] at this; exact this)
        clear HM HI
        go_wp2_with (first
          | ((with_reducible refine gate_dst (N := 43) rfl ?_); go_loud (refine im_make 43 rfl rfl rfl ?_); intro bm w5 hb hm hbw hs; have HM5 := Aside0.mk hm; have HGM := Aside0.mk (show w.heap.size ≤ bm from Nat.le_trans HB.out.size (Nat.le_of_eq hb.symm)); have HC5 := Aside0.mk (HC.out.below hbw); have HNE := Aside0.mk (show bc ≠ bm from fun e => by have := HC.out.lt; omega); have HB5 := Aside0.mk (below_step HB.out hbw); clear hb hm hbw hs HB HC)
          | (go_at_call 42; go_loud (refine (new_calls ⟨a1, a2⟩ _ 1 _ (lit71 (blk_new _ _))).mono ?_); rintro e w6 ⟨hq, gq, cq, rfl, hh, hbl, hge, hgg⟩; have hb6 : Below w5.heap.size w5 w6 := below_step (below_alloc (Below.refl _ _) _) hbl; have hs5 : w5.heap.size ≤ hq ∧ w5.heap.size ≤ gq := ⟨Nat.le_trans (below_alloc (Below.refl w5.heap.size w5) _).size hge, Nat.le_trans (below_alloc (Below.refl w5.heap.size w5) _).size hgg⟩; have HQ6 := Aside0.mk (show HeapW w6 w.heap.size hq gq cq [⟨a1, a2⟩] from ⟨hh.hdr, Kd.R_lower hh.row (Nat.le_trans HB5.out.size (below_alloc (Below.refl w5.heap.size w5) _).size)⟩); have HS5 := Aside0.mk (Nat.le_trans HB5.out.size hs5.1); have HB6 := Aside0.mk (below_step HB5.out hb6); have HM6 := Aside0.mk (HM5.out.below hb6); have HC6 := Aside0.mk (HC5.out.below hb6); clear hb6 hs5 HB5 HM5 HC5; clear hh hbl hge hgg))
        have hh0 := HH.out
        rw [Option.map_eq_some_iff] at hh0
        obtain ⟨r0, hgo, hr0⟩ := hh0
        have HG0 := Aside0.mk hgo
        have HR0' := Aside0.mk hr0
        clear hgo hr0 HH
        have HST := Aside0.mk (show ESt w w6 hq gq cq bm bc (.slice none 0 0) [] [⟨a1, a2⟩] ([] : List (Int × Int)) m from ⟨Kd.R_nil k71 71 _ _ _, HQ6.out, by simp [Value.ownBlock], HM6.out, HC6.out, HB6.out, HS5.out, HGM.out, HNE.out⟩)
        clear HQ6 HM6 HC6 HB6 HS5 HGM HNE HGC
        go_loopg [10, 16, 17, 18, 19, 21, 22, 23, 24, 25, 26] (l0.length + 2) (fun kq v10 _ _ _ _ _ _ _ _ _ _ w' => ∃ (out q : List S71) (g cap : Nat) (t : List (Int × Int)), Aside0 (earlyGo l0 a3 l4 kq out q = some r0) ∧ Aside0 (ESt w w' hq g cap bm bc v10 out q t m) ∧ Aside0 ((q = [] → out ≠ []) ∧ (out.map (·.f0)).Nodup) ∧ Aside0 (Reached t out))
        case atStart => exact ⟨[], [⟨a1, a2⟩], gq, cq, [], HG0, HST, ⟨⟨fun e => by simp at e, by simp⟩⟩, ⟨fun n => rfl⟩⟩
        case round =>
          clear HG0 HST
          obtain ⟨out, q, g, cap, t, HG, HS, HN, HT⟩ := hrel
          cases gk with
          | zero => exact absurd HG.out (by simp [earlyGo])
          | succ k1 =>
            have hgo := HG.out
            unfold earlyGo at hgo
            split at hgo
            case isFalse => exact absurd hgo (by simp)
            rename_i hbd
            cases q with
            | nil =>
              injection hgo with hgo
              subst hgo
              have HND := Aside0.mk HN.out.2
              have HNE := Aside0.mk (HN.out.1 rfl)
              have HOL := Aside0.mk (show out.length < 4611686018427387904 by have := hbd.1; omega)
              clear HN
              obtain ⟨Ao, co, eo⟩ := Kd.R_slice HS.out.O
              subst eo
              go_wp2_with (first
                | (go_at_call 43; go_loud (refine (len_calls HS.out.Q).mono ?_); rintro e w7 ⟨rfl, hb⟩; have HS7 := Aside0.mk (HS.out.below hb); clear hb HS)
                | (go_at_call 48; go_loud (refine (sort_49 _ out _ w.heap.size (fun _ => True) HS7.out.O HNE.out HOL.out HND.out).mono ?_); rintro e w8 ⟨rfl, ho, hg⟩; have HO8 := Aside0.mk ho; have HB8 := Aside0.mk (HS7.out.B.grown hg HS7.out.B.size (fun k hk => Kd.R_base HS7.out.O k hk)); clear ho hg HS7))
              go_ret
              exact ⟨_, rfl, by rw [← HR0'.out]; exact HO8.out, HB8.out⟩
            | cons x xs =>
              have HBD := Aside0.mk hbd
              have HND := Aside0.mk HN.out.2
              have HXL := Aside0.mk (show (x :: xs).length ≤ 100000000000000 by have := hbd.2; omega)
              have hpos : (0 : Int) < ((x :: xs).length : Int) := by simp
              simp only at hgo
              clear HN hbd
              have hru := HT.out x.f0
              by_cases hx : x.f0 ∈ out.map (·.f0)
              · rw [if_pos hx] at hgo
                rw [decide_eq_true hx] at hru
                have HG1 := Aside0.mk hgo
                have HRU := Aside0.mk hru
                have HNO := Aside0.mk (show (popL (x :: xs) = [] → out ≠ []) ∧ (out.map (·.f0)).Nodup from ⟨fun _ e => by rw [e] at hx; simp at hx, HND.out⟩)
                clear hgo hru hx HG HND
                go_wp2_with (first
                  | (go_at_call 43; go_loud (refine (len_calls HS.out.Q).mono ?_); rintro e w7 ⟨rfl, hb⟩; have HS7 := Aside0.mk (HS.out.below hb); clear hb HS)
                  | (go_at_call 44; go_loud (refine (pop_calls HS7.out.Q HXL.out).mono ?_); rintro e w8 ⟨rfl, hh, hk⟩; have HS8 := Aside0.mk (HS7.out.push hk.o hh (.inl rfl)); clear hh hk HS7)
                  | ((with_reducible refine gate_dst (N := 16) rfl ?_); go_loud (refine box2 16 rfl rfl rfl rfl rfl rfl #[.int .i64 x.f0, .int .i64 x.f1] info71 rfl rfl (by simp [Value.oneCell']) (by first | (go_simp; done) | (go_simp; rfl)) (by first | (go_simp; done) | (go_simp; rfl)) ?_); intro gr w9 hg hblk hbw hs; have HX9 := Aside0.mk (show EX w9 hq g _ gr x from ⟨hblk, fun e => by have := HS8.out.Q.lt.1; omega, fun e => by have := HS8.out.Q.lt.2; omega, R_new_ne HS8.out.O hg⟩); have HS9 := Aside0.mk (HS8.out.below hbw); have y0 := HX9.out.c0; have y1 := HX9.out.c1; clear hg hblk hbw hs HS8)
                  | ((with_reducible refine gate_dst (N := 61) rfl ?_); go_loud (refine im_look2 (Value.int .i64) 0 61 rfl rfl rfl Try.underlying74 Try.underlying3 zero3 bm t x.f0 rfl rfl HS9.out.M ?_); rw [HRU.out]))
                go_roundg k1
                case measure => omega
                case rel => exact ⟨out, _, g, cap, t, HG1, HS9, HNO, HT⟩
              · rw [if_neg hx] at hgo
                rw [decide_eq_false hx] at hru
                have HRU := Aside0.mk hru
                have HNO := Aside0.mk (show (out ++ [x]) ≠ [] ∧ ((out ++ [x]).map (·.f0)).Nodup from ⟨by simp, by rw [List.map_append, List.nodup_append]; exact ⟨HND.out, by simp, fun a ha b hb e => by simp at hb; subst hb; exact hx (e ▸ ha)⟩⟩)
                have HT2 := Aside0.mk (reached_step HT.out x)
                have HLO := Aside0.mk (show (out.length + 1) * 16 ≤ 140737488355328 by have := HBD.out.1; omega)
                obtain ⟨es, Hes⟩ : ∃ es, es = l0.filter (fun e => decide (e.f1 = x.f0)) := ⟨_, rfl⟩
                have HESL := Aside0.mk (show es.length ≤ 1000000 by rw [Hes]; exact Nat.le_trans (List.length_filter_le _ _) HLN.out.1)
                have HG1' := Aside0.mk (show earlyGo l0 a3 l4 k1 (out ++ [x]) (es.foldl (pushE a3 l4 (out ++ [x]) x) (popL (x :: xs))) = some r0 by rw [Hes]; exact hgo)
                have HPL := Aside0.mk (show (popL (x :: xs)).length ≤ 1000001 by have := (popL_perm x xs).length_eq; have := HBD.out.2; simp at this; omega)
                have HVF := Aside0.mk (show view_From.f (l0.length + 1) l0 x.f0 = some es by rw [Hes]; exact view_From_eq l0 HLN.out.1 (l0.length + 1) (Nat.lt_succ_self _) x.f0)
                have hel : es.length ≤ 1000000 := HESL.out
                clear Hes
                clear hgo hru hx HG HND HT
                obtain ⟨Ao, co, eo⟩ := Kd.R_slice HS.out.O
                subst eo
                go_wp2_with (first
                  | (go_at_call 43; go_loud (refine (len_calls HS.out.Q).mono ?_); rintro e w7 ⟨rfl, hb⟩; have HS7 := Aside0.mk (HS.out.below hb); clear hb HS)
                  | (go_at_call 44; go_loud (refine (pop_calls HS7.out.Q HXL.out).mono ?_); rintro e w8 ⟨rfl, hh, hk⟩; have HS8 := Aside0.mk (HS7.out.push hk.o hh (.inl rfl)); clear hh hk HS7)
                  | ((with_reducible refine gate_dst (N := 16) rfl ?_); go_loud (refine box2 16 rfl rfl rfl rfl rfl rfl #[.int .i64 x.f0, .int .i64 x.f1] info71 rfl rfl (by simp [Value.oneCell']) (by first | (go_simp; done) | (go_simp; rfl)) (by first | (go_simp; done) | (go_simp; rfl)) ?_); intro gr w9 hg hblk hbw hs; have HX9 := Aside0.mk (show EX w9 hq g _ gr x from ⟨hblk, fun e => by have := HS8.out.Q.lt.1; omega, fun e => by have := HS8.out.Q.lt.2; omega, R_new_ne HS8.out.O hg⟩); have HS9 := Aside0.mk (HS8.out.below hbw); have y0 := HX9.out.c0; have y1 := HX9.out.c1; clear hg hblk hbw hs HS8)
                  | ((with_reducible refine gate_dst (N := 61) rfl ?_); go_loud (refine im_look2 (Value.int .i64) 0 61 rfl rfl rfl Try.underlying74 Try.underlying3 zero3 bm t x.f0 rfl rfl HS9.out.M ?_); rw [HRU.out])
                  | (at_mapUpdate; go_loud (refine im_store (Value.int .i64) rfl rfl rfl Try.underlying74 Try.underlying3 bm t x.f0 x.f1 rfl rfl rfl HS9.out.M ?_); intro w10 hm10 hg10 hs10; have HX10 := Aside0.mk (HX9.out.store HS9.out.M hg10); have HS10 := Aside0.mk (HS9.out.store hm10 hg10); have z0 := HX10.out.c0; have z1 := HX10.out.c1; clear hm10 hg10 hs10 y0 y1 HX9 HS9)
                  | ((with_reducible refine gate_builtin (b := .append) (xs := #[.tmp 70, .tmp 72]) rfl ?_); at_builtin; go_loud (refine Kd.R_append k71 (w0 := w) (W := w10) w.heap.size rfl (.tmp 70) (.tmp 72) 38 71 (.agg #[.int .i64 0, .int .i64 0]) 16 rfl Try.underlying38 info71 rfl (by decide) (by decide) (.slice Ao out.length co) out x [.int .i64 x.f0, .int .i64 x.f1] (fun _ => True) (fun _ => False) rfl rfl (k71_mkM _ _ _ x) (fun _ hk => hk.elim) (fun _ _ => trivial) HS10.out.O HS10.out.B HS10.out.B.size HLO.out ?_); intro v11 w11 ho11 hb11 hg11 hat11; have HX11 := Aside0.mk (HX10.out.app hg11 hat11); have HS11 := Aside0.mk (HS10.out.app ho11 hb11 hg11 hat11); have u0 := HX11.out.c0; have u1 := HX11.out.c1; clear ho11 hb11 hg11 hat11 z0 z1 HX10 HS10)
                  | (go_at_call 45; go_loud (refine (view_From.calls (l0.length + 1) A0 c0 l0 x.f0 _ _ (Kd.C_below HR0.out HS11.out.B) HC0.out HVF.out).mono ?_); rintro e w12 ⟨ve, rfl, he, hb⟩; obtain ⟨Ae, ce, ee⟩ := Kd.R_slice he; subst ee; have HE12 := Aside0.mk (show EE w12 w.heap.size hq g (.slice Ae es.length ce) es from ⟨Kd.R_lower he HS11.out.B.size, fun e => by have := Kd.R_base he g e.symm; have := HS11.out.Q.lt.2; omega⟩); have HX12 := Aside0.mk (HX11.out.below hb); have HS12 := Aside0.mk (HS11.out.below hb); clear he hb u0 u1 HX11 HS11))
                go_loopg [21, 22, 23, 24, 25, 26, 79] es.length (fun kq _ _ _ _ _ _ v79 w' => ∃ (i g cap : Nat), v79 = .int .i64 (i : Int) ∧ Aside0 (i + kq = es.length) ∧ Aside0 (ESt w w' hq g cap bm bc _ (out ++ [x]) ((es.take i).foldl (pushE a3 l4 (out ++ [x]) x) (popL (x :: xs))) (aset t x.f0 x.f1) m) ∧ Aside0 (EX w' hq g _ gr x) ∧ Aside0 (EE w' w.heap.size hq g (.slice Ae es.length ce) es))
                case atStart => exact ⟨0, g, cap, rfl, ⟨by omega⟩, HS12, HX12, HE12⟩
                case round =>
                  clear HS12 HX12 HE12
                  obtain ⟨i, g, cap, rfl, HI, HS12, HX12, HE12⟩ := hrel
                  cases gk with
                  | zero =>
                    have hi : ¬ ((i : Nat) : Int) < (es.length : Int) := by have := HI.out; omega
                    have HSZ := Aside0.mk (show ESt w _ hq g cap bm bc _ (out ++ [x]) (es.foldl (pushE a3 l4 (out ++ [x]) x) (popL (x :: xs))) (aset t x.f0 x.f1) m by have := HS12.out; rw [List.take_of_length_le (by have := HI.out; omega)] at this; exact this)
                    clear HS12 HI
                    go_wp2
                    go_roundg k1
                    case measure => omega
                    case rel => exact ⟨out ++ [x], _, g, cap, _, HG1', HSZ, ⟨fun _ => HNO.out.1, HNO.out.2⟩, HT2⟩
                  | succ k2 =>
                    have hi : i < es.length := by have := HI.out; omega
                    have p0 : 0 ≤ ((i : Nat) : Int) := by omega
                    have p1 : ((i : Nat) : Int) < (es.length : Int) := by omega
                    obtain ⟨ad, e0, hx0, hx1, hx2, hx3, hx4, hx5, hx6, hx7⟩ := at_T65 (Kd.R_reads' HE12.out.E).2.2 (i : Int) p0 p1
                    cases e0
                    rw [Int.toNat_natCast] at hx0 hx1 hx2 hx3 hx4 hx5 hx6 hx7
                    have hsn := foldl_take_snoc (pushE a3 l4 (out ++ [x]) x) es i hi (popL (x :: xs))
                    rw [← rd65 es i hi] at hsn
                    have hql : ((es.take i).foldl (pushE a3 l4 (out ++ [x]) x) (popL (x :: xs))).length ≤ 2000001 := by
                      have := pushFold_len a3 l4 (out ++ [x]) x (es.take i) (popL (x :: xs))
                      have h2 : (es.take i).length ≤ i := List.length_take_le _ _
                      have := HPL.out
                      omega
                    generalize (es.take i).foldl (pushE a3 l4 (out ++ [x]) x) (popL (x :: xs)) = qi at hsn hql HS12
                    obtain ⟨ed, Hed⟩ : ∃ ed, ed = rd_T65 es (i : Int) := ⟨_, rfl⟩
                    rw [← Hed] at hx0 hx1 hx2 hx3 hx4 hx5 hx6 hx7 hsn
                    clear Hed
                    obtain ⟨sd, th, okb, hps, hok, hth⟩ := pass_three ed x.f1 a3
                    obtain ⟨hadb, hhad⟩ : ∃ hadb, hadb = decide (ed.f2 ∈ (out ++ [x]).map (·.f0)) := ⟨_, rfl⟩
                    obtain ⟨clb, hcl⟩ : ∃ clb, clb = decide (ed.f2 ∈ l4) := ⟨_, rfl⟩
                    have hpe := pushE_eq (q := qi) hok hhad hcl hth
                    rw [hpe] at hsn
                    have HSN := Aside0.mk hsn
                    have HQL := Aside0.mk (show qi.length ≤ 1000000000000 by omega)
                    have HPS := Aside0.mk hps
                    have HHD := Aside0.mk (show (aget (aset t x.f0 x.f1) ed.f2).isSome = hadb by rw [HT2.out, hhad])
                    have HCD := Aside0.mk (show (aget m ed.f2).getD false = clb by rw [HCL.out, hcl]; by_cases c : ed.f2 ∈ l4 <;> simp [c])
                    have y1 := HX12.out.c1
                    clear hsn hql hps hok hth hhad hcl hpe
                    cases okb <;> cases hadb <;> cases clb
                    all_goals
                      go_wp2_with (first
                        | ((with_reducible refine gate_dst (N := 21) rfl ?_); go_loud (refine box2 21 rfl rfl rfl rfl rfl rfl #[.int .i64 ed.f0, .int .i64 ed.f1, .int .i64 ed.f2, .int .i64 ed.f3, .int .i64 ed.f4, .int .i64 ed.f5, .int .i64 ed.f6, .int .i64 ed.f7] info65 rfl rfl (by simp [Value.oneCell']) (by first | (go_simp; done) | (go_simp; rfl)) (by first | (go_simp; done) | (go_simp; rfl)) ?_); intro ge w13 hg hblk hbw hs; have HS13 := Aside0.mk (HS12.out.below hbw); have HX13 := Aside0.mk (HX12.out.below hbw); have HE13 := Aside0.mk (HE12.out.below hbw); have HK13 := Aside0.mk hblk; have u1 := HX13.out.c1; have e0 := (blk_cell hblk 0).trans rfl; have e1 := (blk_cell hblk 1).trans rfl; have e2 := (blk_cell hblk 2).trans rfl; have e3 := (blk_cell hblk 3).trans rfl; have e4 := (blk_cell hblk 4).trans rfl; have e5 := (blk_cell hblk 5).trans rfl; have e6 := (blk_cell hblk 6).trans rfl; have e7 := (blk_cell hblk 7).trans rfl; clear hg hblk hbw hs hx0 hx1 hx2 hx3 hx4 hx5 hx6 hx7 y1 HS12 HX12 HE12)
                        | ((with_reducible refine gate_dst (N := 87) rfl ?_); go_loud (refine im_look2 (Value.int .i64) 0 87 rfl rfl rfl Try.underlying74 Try.underlying3 zero3 bm (aset t x.f0 x.f1) ed.f2 rfl rfl HS13.out.M ?_); rw [HHD.out])
                        | (go_at_call 46; go_loud (refine (hop_Pass.calls 1 ed.f0 ed.f1 ed.f2 ed.f3 ed.f4 ed.f5 ed.f6 ed.f7 x.f1 a3 sd th _ _ HPS.out).mono ?_); rintro e w14 ⟨rfl, hb⟩; have HS14 := Aside0.mk (HS13.out.below hb); have HX14 := Aside0.mk (HX13.out.below hb); have HE14 := Aside0.mk (HE13.out.below hb); have HK14 := Aside0.mk (blk_below HK13.out hb); have v2 := (blk_cell HK14.out 2).trans rfl; clear hb e0 e1 e2 e3 e4 e5 e6 e7 u1 HS13 HX13 HE13 HK13)
                        | ((with_reducible refine gate_dst (N := 108) rfl ?_); refine gate_guard (by rfl) ?_; go_loud (refine im_look1 Value.bool false 108 rfl rfl rfl Try.underlying73 Try.underlying3 zero4e bc m ed.f2 rfl rfl HS14.out.C ?_); rw [HCD.out])
                        | (go_at_call 47; go_loud (refine (push_calls ⟨ed.f2, th⟩ HS14.out.Q.v HS14.out.B.size HQL.out).mono ?_); rintro e w15 ⟨rfl, g', cap', hh, hk, ho⟩; have HS15 := Aside0.mk (HS14.out.push hk hh ho); have HX15 := Aside0.mk (HX14.out.push hk ho); have HE15 := Aside0.mk (HE14.out.push HS14.out.Q.hdr hk ho); clear hh hk ho))
                    all_goals
                      go_roundg k2
                      case measure => omega
                      case rel =>
                        have hz := HSN.out
                        have hi1 : i + 1 + k2 = es.length := by have := HI.out; omega
                        first
                          | (rw [if_pos (by simp)] at hz; have HZ := HS15.out; rw [← hz] at HZ; exact ⟨i + 1, g', cap', by first | rfl | (simp; done) | (go_num; done), ⟨hi1⟩, ⟨HZ⟩, HX15, HE15⟩)
                          | (rw [if_neg (by simp)] at hz; have HZ := HS14.out; rw [← hz] at HZ; exact ⟨i + 1, g, cap, by first | rfl | (simp; done) | (go_num; done), ⟨hi1⟩, ⟨HZ⟩, HX14, HE14⟩)
      | succ k1 =>
        have hi : i < l4.length := by have := HI.out; omega
        have p0 : 0 ≤ ((i : Nat) : Int) := by omega
        have p1 : ((i : Nat) : Int) < (l4.length : Int) := by omega
        obtain ⟨ad, e0, hx⟩ := Kd.at_int HR4.out (i : Int) p0 p1
        cases e0
        rw [Int.toNat_natCast, rdI l4 i hi] at hx
        replace hx := pw_cell_below HB.out hx
        have hwr := wrap_succ i hi hl4
        have HM2 := Aside0.mk (show Closed (aset m l4[i] true) (l4.take (i + 1)) by rw [List.take_succ_eq_append_getElem hi]; exact closed_step HM.out _)
        generalize l4[i] = y at hx HM2
        go_wp2_with (first
          | (at_mapUpdate; go_loud (refine im_store Value.bool rfl rfl rfl Try.underlying73 Try.underlying3 bc m y true rfl rfl rfl HC.out ?_); intro w4 hm4 hg4 hs4; have HC4 := Aside0.mk hm4; have HB4 := Aside0.mk (below_grown_one HB.out hg4 HGC.out); clear hm4 hg4 hs4 hx HC HB))
        go_roundg k1
        case measure => omega
        case rel => exact ⟨i + 1, aset m y true, by first | rfl | (simp; done) | (rw [hwr]; done) | (go_num; done), ⟨by have := HI.out; omega⟩, HM2, HC4, HB4⟩
  · rw [decide_eq_false hA] at hask
    rw [if_neg hA] at h
    injection h with h
    subst h
    have HAS := Aside0.mk hask
    clear hask hA
    go_enter Try.func21, Try.ntmps21
    go_wp2_with (first
      | (go_at_call 41; go_loud (refine (early_asked.calls (l0.length + 2) A0 c0 l0 a1 a2 a3 false _ HR0.out HC0.out HAS.out).mono ?_); rintro e w1 ⟨rfl, hb⟩; have HB1 := Aside0.mk hb; clear hb HB))
    go_ret
    exact ⟨_, rfl, Kd.R_nil k71 71 _ w.heap.size (fun _ => True), HB1.out⟩
end Go.Proofs.Ytijflnpgiegajaa.Q
end
section
namespace Go.Proofs.Ytijflnpgiegajaa.Q
open Go.RowKit Go.Proofs.YtijflnpgiegajaaW.PrintWords Go.Proofs.YtijflnpgiegajaaW.PrintLast Go.Proofs.YtijflnpgiegajaaW.PrintMore
attribute [local go_sem] max2_int min2_int max_two min_two
set_option linter.unusedVariables false
set_option linter.unusedSimpArgs false
def least_search_next.l0 : Nat → Int → List (S71) → List (S65) → Int → Int → List (S65) → Int → Int → Int → List Int → Option (Int × Int × Int × Int × Bool)
  | 0, _, _, _, _, _, _, _, _, _, _ => none
  | k + 1, x2, x11, x34, x35, x36, x171000, x171001, x171002, x171003, x171004 => if x36 < x35 then (if 0 ≤ x36 then (if x36 < (x34.length : Int) then ((hop_Pass.f k ((rd_T65 x34 x36).f0) ((rd_T65 x34 x36).f1) ((rd_T65 x34 x36).f2) ((rd_T65 x34 x36).f3) ((rd_T65 x34 x36).f4) ((rd_T65 x34 x36).f5) ((rd_T65 x34 x36).f6) ((rd_T65 x34 x36).f7) x2 x171002).bind fun bt180 => ((early_At.f k x11 ((rd_T65 x34 x36).f2)).bind fun bt183 => (if bt180.2.2 = true then (if bt183.2 = true then (if bt180.2.1 ≤ bt183.1 then (if ((rd_T65 x34 x36).f2) = x171001 then (some ((rd_T65 x34 x36).f0, bt180.1, bt180.2.1, (rd_T65 x34 x36).f2, true)) else ((slices_Contains_int_int.f k x171004 ((rd_T65 x34 x36).f2)).bind fun t185 => (if t185 = true then (least_search_next.l0 k x2 x11 x34 x35 (wrap64 (x36 + 1)) x171000 x171001 x171002 x171003 x171004) else (some ((rd_T65 x34 x36).f0, bt180.1, bt180.2.1, (rd_T65 x34 x36).f2, true))))) else (least_search_next.l0 k x2 x11 x34 x35 (wrap64 (x36 + 1)) x171000 x171001 x171002 x171003 x171004)) else (least_search_next.l0 k x2 x11 x34 x35 (wrap64 (x36 + 1)) x171000 x171001 x171002 x171003 x171004)) else (least_search_next.l0 k x2 x11 x34 x35 (wrap64 (x36 + 1)) x171000 x171001 x171002 x171003 x171004)))) else (none)) else (none)) else (some (0, 0, 0, 0, false))
def least_search_next.f (k : Nat) (l0_0 : List (S65)) (a0_1 : Int) (a0_2 : Int) (a0_3 : Int) (l0_4 : List Int) (a1 : Int) (a2 : Int) (a3 : Int) : Option (Int × Int × Int × Int × Bool) := (late_Times.f l0_0 a0_1 a0_3 a0_2 a3 l0_4).bind fun t172 => ((view_From.f k l0_0 a1).bind fun t175 => (least_search_next.l0 k a2 t172 t175 (t175.length : Int) 0 l0_0 a0_1 a0_2 a0_3 l0_4))
def least_search_next.T8 : Bool × List (List Nat × List Nat) := (true, [([], []), ([0], [0]), ([], []), ([], []), ([1, 2, 3], [1, 2, 3]), ([], []), ([5], [5]), ([4, 0, 1, 2, 3, 4], [4]), ([6, 7, 0, 1, 2, 3, 4, 5, 6, 7], [6]), ([8, 0, 1, 2, 3, 4, 5, 6, 7, 8], [])])
def least_search_next.B8 : List Nat := [0, 1, 0, 0, 15, 0, 32, 31, 255, 511]
theorem least_search_next.tab8 : rtab .any (opsOf Try.f34 8) = least_search_next.T8 := by kernel_rfl
theorem least_search_next.bits8 : waitsOk least_search_next.T8.2 least_search_next.B8 = true := by kernel_rfl
set_option maxHeartbeats 8000000 in
set_option maxRecDepth 100000 in
theorem least_search_next.calls (k : Nat) (A0_0 : Option Addr) (c0_0 : Nat) (l0_0 : List (S65)) (a0_1 : Int) (a0_2 : Int) (a0_3 : Int) (A0_4 : Option Addr) (c0_4 : Nat) (l0_4 : List Int) (a1 : Int) (a2 : Int) (a3 : Int) (r1 : Int) (r2 : Int) (r3 : Int) (r4 : Int) (r5 : Bool) (w : World) (hr0_0 : Kd.C k65 w A0_0 l0_0.length l0_0) (hc0_0 : l0_0.length ≤ c0_0) (hr0_4 : Kd.C (Kd.int .i64) w A0_4 l0_4.length l0_4) (hc0_4 : l0_4.length ≤ c0_4) (h : least_search_next.f k l0_0 a0_1 a0_2 a0_3 l0_4 a1 a2 a3 = some (r1, r2, r3, r4, r5)) :
    Calls Try.prog 34 #[.agg #[.slice A0_0 l0_0.length c0_0, .int .i64 a0_1, .int .i64 a0_2, .int .i64 a0_3, .slice A0_4 l0_4.length c0_4], .int .i64 a1, .int .i64 a2, .int .i64 a3] w fun e w' => e = .returned (.tuple #[.agg #[.int .i64 r1, .int .i64 r2, .int .i64 r3], .int .i64 r4, .bool r5]) ∧ Below w.heap.size w w' := by
  have hu58 := Try.underlying58
  have hu56 := Try.underlying56
  have hu65 := Try.underlying65
  have HR0_0 := Aside0.mk hr0_0
  have HC0_0 := Aside0.mk hc0_0
  clear hr0_0 hc0_0
  have HR0_4 := Aside0.mk hr0_4
  have HC0_4 := Aside0.mk hc0_4
  clear hr0_4 hc0_4
  have HB := Aside0.mk (Below.refl w.heap.size w)
  have H : ((late_Times.f l0_0 a0_1 a0_3 a0_2 a3 l0_4).bind fun t172 => ((view_From.f k l0_0 a1).bind fun t175 => (least_search_next.l0 k a2 t172 t175 (t175.length : Int) 0 l0_0 a0_1 a0_2 a0_3 l0_4))) = some (r1, r2, r3, r4, r5) := h
  clear h
  replace H := Option.bind_eq_some_iff.mp H
  obtain ⟨t172, A50, H⟩ := H
  replace H : ((view_From.f k l0_0 a1).bind fun t175 => (least_search_next.l0 k a2 t172 t175 (t175.length : Int) 0 l0_0 a0_1 a0_2 a0_3 l0_4)) = some (r1, r2, r3, r4, r5) := H
  have A5 := Aside0.mk A50
  clear A50
  replace H := Option.bind_eq_some_iff.mp H
  obtain ⟨t175, A60, H⟩ := H
  replace H : (least_search_next.l0 k a2 t172 t175 (t175.length : Int) 0 l0_0 a0_1 a0_2 a0_3 l0_4) = some (r1, r2, r3, r4, r5) := H
  have A6 := Aside0.mk A60
  clear A60
  have H' := Aside0.mk H
  clear H
  go_enter Try.func34, Try.ntmps34
  go_wp2_with (first | ((with_reducible refine gate_dst (N := 4) rfl ?_); refine box_event ?hg (N := 4) ?hd (cs := #[.slice A0_0 l0_0.length c0_0, .int .i64 a0_1, .int .i64 a0_2, .int .i64 a0_3, .slice A0_4 l0_4.length c0_4]) (t := 58) ?hr ?_; (case hd => rfl); (case hg => rfl); (case hr => first | (go_simp; done) | (go_simp; rfl)); intro gb170 hg w7 hbox hb; have n0_ := Aside0.mk (below_step (by repeat (first | (with_reducible first | exact HB.out | apply below_alloc | apply pw_below_drewN | apply below_drew1) | exact HB.out)) hb); have n1_ := Aside0.mk (hbox); have n2_ := Aside0.mk ((by rw [hg]; exact (below_size (by repeat (first | (with_reducible first | exact HB.out | apply below_alloc | apply pw_below_drewN | apply below_drew1) | exact HB.out))) : w.heap.size ≤ gb170)); have n3_ := Aside0.mk ((by rw [hg]; exact (below_size (by repeat (first | (with_reducible first | exact HB.out | apply below_alloc | apply pw_below_drewN | apply below_drew1) | exact HB.out))) : w.heap.size ≤ gb170)); clear HB; have HB := n0_; have BK170 := n1_; have GW170 := n2_; have GE170 := n3_; clear n0_ n1_ n2_ n3_; clear hb hbox hg) | ((with_reducible refine gate_dst (N := 8) rfl ?_); refine box_event ?hg (N := 8) ?hd (cs := #[.int .i64 0, .int .i64 0, .int .i64 0]) (t := 56) ?hr ?_; (case hd => rfl); (case hg => rfl); (case hr => first | (go_simp; done) | (go_simp; rfl)); intro gb171 hg w8 hbox hb; have n0_ := Aside0.mk (blk_below (g := gb170) (o := .cells #[.slice A0_0 l0_0.length c0_0, .int .i64 a0_1, .int .i64 a0_2, .int .i64 a0_3, .slice A0_4 l0_4.length c0_4] 58 (0, 0)) (by (with_reducible repeat (first | refine blk_drewN ?_ _ | refine blk_drew ?_ | refine blk_alloc ?_ _)); exact BK170.out) hb); have n1_ := Aside0.mk (below_step (by repeat (first | (with_reducible first | exact HB.out | apply below_alloc | apply pw_below_drewN | apply below_drew1 | refine below_set ?_ GE170.out) | exact HB.out)) hb); have n2_ := Aside0.mk (hbox); have n3_ := Aside0.mk ((by rw [hg]; exact (below_size (by repeat (first | (with_reducible first | exact HB.out | apply below_alloc | apply pw_below_drewN | apply below_drew1 | refine below_set ?_ GE170.out) | exact HB.out))) : w.heap.size ≤ gb171)); have n4_ := Aside0.mk ((by rw [hg]; exact (below_size (by repeat (first | (with_reducible first | exact HB.out | apply below_alloc | apply pw_below_drewN | apply below_drew1 | refine below_set ?_ GE170.out) | exact HB.out))) : w.heap.size ≤ gb171)); have n5_ := Aside0.mk ((by rw [hg]; exact Nat.ne_of_lt (blk_lt (g := gb170) (o := .cells #[.slice A0_0 l0_0.length c0_0, .int .i64 a0_1, .int .i64 a0_2, .int .i64 a0_3, .slice A0_4 l0_4.length c0_4] 58 (0, 0)) (by (with_reducible repeat (first | refine blk_drewN ?_ _ | refine blk_drew ?_ | refine blk_alloc ?_ _)); exact BK170.out)) : gb170 ≠ gb171)); have n6_ := Aside0.mk ((by rw [hg]; exact Nat.ne_of_gt (blk_lt (g := gb170) (o := .cells #[.slice A0_0 l0_0.length c0_0, .int .i64 a0_1, .int .i64 a0_2, .int .i64 a0_3, .slice A0_4 l0_4.length c0_4] 58 (0, 0)) (by (with_reducible repeat (first | refine blk_drewN ?_ _ | refine blk_drew ?_ | refine blk_alloc ?_ _)); exact BK170.out)) : gb171 ≠ gb170)); clear BK170; clear HB; have BK170 := n0_; have HB := n1_; have BK171 := n2_; have GW171 := n3_; have GE171 := n4_; have NB170_171 := n5_; have NB171_170 := n6_; clear n0_ n1_ n2_ n3_ n4_ n5_ n6_; clear hb hbox hg; have hnb9 := NB170_171.out; have hnc9 := NB171_170.out; have hcz10_0 : w8.cell? ⟨gb170, 0, none⟩ = some (.slice A0_0 l0_0.length c0_0) := (blk_cell BK170.out 0).trans rfl; have hcz10_1 : w8.cell? ⟨gb170, 1, none⟩ = some (.int .i64 a0_1) := (blk_cell BK170.out 1).trans rfl; have hcz10_2 : w8.cell? ⟨gb170, 2, none⟩ = some (.int .i64 a0_2) := (blk_cell BK170.out 2).trans rfl; have hcz10_3 : w8.cell? ⟨gb170, 3, none⟩ = some (.int .i64 a0_3) := (blk_cell BK170.out 3).trans rfl; have hcz10_4 : w8.cell? ⟨gb170, 4, none⟩ = some (.slice A0_4 l0_4.length c0_4) := (blk_cell BK170.out 4).trans rfl; have hfz10_0 := blk_frozen BK170.out 0; have hfz10_1 := blk_frozen BK170.out 1; have hfz10_2 := blk_frozen BK170.out 2; have hfz10_3 := blk_frozen BK170.out 3; have hfz10_4 := blk_frozen BK170.out 4) | ((with_reducible refine gate_callee (f := 65) rfl ?_); refine goesL_ (some 30) rfl rfl Try.func65 (by kernel_rfl) rfl #[.slice A0_0 l0_0.length c0_0, .int .i64 a0_1, .int .i64 a0_3, .int .i64 a0_2, .int .i64 a3, .slice A0_4 l0_4.length c0_4] rfl (by (try simp only [List.map_toArray, List.map_cons, List.map_nil]); first | done | rfl | (simp only [List.length_drop, List.length_take]; rfl)) ?_; (with_reducible refine (late_Times.calls _ _ l0_0 a0_1 a0_3 a0_2 a3 _ _ l0_4 t172 _ ?side1 ?side2 ?side3 ?side4 A5.out).mono ?_); (case side1 => repeat (first | exact (Kd.C_below HR0_0.out HB.out) | (with_reducible refine Kd.C_alloc ?_ _) | (with_reducible refine Kd.C_drewN ?_ _) | (with_reducible refine Kd.C_drew ?_))); (case side2 => exact HC0_0.out); (case side3 => repeat (first | exact (Kd.C_below HR0_4.out HB.out) | (with_reducible refine Kd.C_alloc ?_ _) | (with_reducible refine Kd.C_drewN ?_ _) | (with_reducible refine Kd.C_drew ?_))); (case side4 => exact HC0_4.out); rintro e w11 ⟨v173, rfl, ho0, hb⟩; refine ⟨_, rfl, ?_⟩; have n0_ := Aside0.mk (Kd.R_lower ho0 (below_size (by repeat (first | (with_reducible first | exact HB.out | apply below_alloc | apply pw_below_drewN | apply below_drew1 | refine below_set ?_ GE170.out | refine below_set ?_ GE171.out) | exact HB.out)))); have n1_ := Aside0.mk (blk_below (g := gb170) (o := .cells #[.slice A0_0 l0_0.length c0_0, .int .i64 a0_1, .int .i64 a0_2, .int .i64 a0_3, .slice A0_4 l0_4.length c0_4] 58 (0, 0)) (by (with_reducible repeat (first | refine blk_drewN ?_ _ | refine blk_drew ?_ | refine blk_alloc ?_ _)); exact BK170.out) hb); have n2_ := Aside0.mk (blk_below (g := gb171) (o := .cells #[.int .i64 0, .int .i64 0, .int .i64 0] 56 (0, 0)) (by (with_reducible repeat (first | refine blk_drewN ?_ _ | refine blk_drew ?_ | refine blk_alloc ?_ _)); exact BK171.out) hb); have n3_ := Aside0.mk (below_step (by repeat (first | (with_reducible first | exact HB.out | apply below_alloc | apply pw_below_drewN | apply below_drew1 | refine below_set ?_ GE170.out | refine below_set ?_ GE171.out) | exact HB.out)) hb); clear BK170; clear BK171; clear HB; have HO174 := n0_; have BK170 := n1_; have BK171 := n2_; have HB := n3_; clear n0_ n1_ n2_ n3_; (try clear hb); (try clear hb2); (try clear hk); (try clear hi); (try clear ho0); have hcz12_0 : w11.cell? ⟨gb170, 0, none⟩ = some (.slice A0_0 l0_0.length c0_0) := (blk_cell BK170.out 0).trans rfl; have hcz12_1 : w11.cell? ⟨gb170, 1, none⟩ = some (.int .i64 a0_1) := (blk_cell BK170.out 1).trans rfl; have hcz12_2 : w11.cell? ⟨gb170, 2, none⟩ = some (.int .i64 a0_2) := (blk_cell BK170.out 2).trans rfl; have hcz12_3 : w11.cell? ⟨gb170, 3, none⟩ = some (.int .i64 a0_3) := (blk_cell BK170.out 3).trans rfl; have hcz12_4 : w11.cell? ⟨gb170, 4, none⟩ = some (.slice A0_4 l0_4.length c0_4) := (blk_cell BK170.out 4).trans rfl; have hfz12_0 := blk_frozen BK170.out 0; have hfz12_1 := blk_frozen BK170.out 1; have hfz12_2 := blk_frozen BK170.out 2; have hfz12_3 := blk_frozen BK170.out 3; have hfz12_4 := blk_frozen BK170.out 4) | ((with_reducible refine gate_callee (f := 45) rfl ?_); refine goesL_ (some 34) rfl rfl Try.func45 (by kernel_rfl) rfl #[.slice A0_0 l0_0.length c0_0, .int .i64 a1] rfl (by (try simp only [List.map_toArray, List.map_cons, List.map_nil]); first | done | rfl | (simp only [List.length_drop, List.length_take]; rfl)) ?_; (with_reducible refine (view_From.calls k _ _ l0_0 a1 t175 _ ?side1 ?side2 A6.out).mono ?_); (case side1 => repeat (first | exact (Kd.C_below HR0_0.out HB.out) | (with_reducible refine Kd.C_alloc ?_ _) | (with_reducible refine Kd.C_drewN ?_ _) | (with_reducible refine Kd.C_drew ?_))); (case side2 => exact HC0_0.out); rintro e w13 ⟨v176, rfl, ho0, hb⟩; refine ⟨_, rfl, ?_⟩; have n0_ := Aside0.mk (Kd.R_below (by (with_reducible repeat (first | apply Kd.R_alloc | apply Kd.R_drewN | apply Kd.R_drew)); exact HO174.out) hb); have n1_ := Aside0.mk (Kd.R_lower ho0 (below_size (by repeat (first | (with_reducible first | exact HB.out | apply below_alloc | apply pw_below_drewN | apply below_drew1 | refine below_set ?_ GE170.out | refine below_set ?_ GE171.out) | exact HB.out)))); have n2_ := Aside0.mk (blk_below (g := gb170) (o := .cells #[.slice A0_0 l0_0.length c0_0, .int .i64 a0_1, .int .i64 a0_2, .int .i64 a0_3, .slice A0_4 l0_4.length c0_4] 58 (0, 0)) (by (with_reducible repeat (first | refine blk_drewN ?_ _ | refine blk_drew ?_ | refine blk_alloc ?_ _)); exact BK170.out) hb); have n3_ := Aside0.mk (blk_below (g := gb171) (o := .cells #[.int .i64 0, .int .i64 0, .int .i64 0] 56 (0, 0)) (by (with_reducible repeat (first | refine blk_drewN ?_ _ | refine blk_drew ?_ | refine blk_alloc ?_ _)); exact BK171.out) hb); have n4_ := Aside0.mk (below_step (by repeat (first | (with_reducible first | exact HB.out | apply below_alloc | apply pw_below_drewN | apply below_drew1 | refine below_set ?_ GE170.out | refine below_set ?_ GE171.out) | exact HB.out)) hb); clear HO174; clear BK170; clear BK171; clear HB; have HO174 := n0_; have HO177 := n1_; have BK170 := n2_; have BK171 := n3_; have HB := n4_; clear n0_ n1_ n2_ n3_ n4_; (try clear hb); (try clear hb2); (try clear hk); (try clear hi); (try clear ho0); obtain ⟨Ao14, co14, eo14⟩ := Kd.R_slice HO177.out; subst eo14))
  go_loopg [36] k (fun kq v36 w' => ∃ (x36_1 : Int) (x172000_1 : Int) (x172001_1 : Int) (x172002_1 : Int), v36 = .int .i64 x36_1 ∧ Aside0 (least_search_next.l0 kq a2 t172 t175 (t175.length : Int) x36_1 l0_0 a0_1 a0_2 a0_3 l0_4 = some (r1, r2, r3, r4, r5)) ∧ Aside0 (kq ≤ k) ∧ Aside0 (Kd.R k71 71 w' w.heap.size (fun _ => True) v173 t172) ∧ Aside0 (Kd.R k65 65 w' w.heap.size (fun _ => True) (.slice Ao14 t175.length co14) t175) ∧ Aside0 (w'.heap[gb170]? = some (.cells #[(.slice A0_0 l0_0.length c0_0), .int .i64 a0_1, .int .i64 a0_2, .int .i64 a0_3, (.slice A0_4 l0_4.length c0_4)] 58 (0, 0))) ∧ Aside0 (w'.heap[gb171]? = some (.cells #[.int .i64 x172000_1, .int .i64 x172001_1, .int .i64 x172002_1] 56 (0, 0))) ∧ Aside0 (Below w.heap.size w w'))
  case atStart => exact ⟨(0), (0), (0), (0), (by first | rfl | (simp; done) | (simp [*]; done)), H', ⟨Nat.le_refl _⟩, ⟨by (with_reducible repeat (first | apply Kd.R_alloc | apply Kd.R_drewN | apply Kd.R_drew)); exact HO174.out⟩, ⟨by (with_reducible repeat (first | apply Kd.R_alloc | apply Kd.R_drewN | apply Kd.R_drew)); exact HO177.out⟩, ⟨by (with_reducible repeat (first | refine blk_drewN ?_ _ | refine blk_drew ?_ | refine blk_alloc ?_ _)); exact BK170.out⟩, ⟨by (with_reducible repeat (first | refine blk_drewN ?_ _ | refine blk_drew ?_ | refine blk_alloc ?_ _)); exact BK171.out⟩, ⟨by repeat (first | (with_reducible first | exact HB.out | apply below_alloc | apply pw_below_drewN | apply below_drew1 | refine below_set ?_ GE170.out | refine below_set ?_ GE171.out) | exact HB.out)⟩⟩
  case round =>
    clear H'
    try clear p2
    try clear c3
    try clear c4
    try clear c6
    try clear c9
    try clear hcz10_0
    try clear hcz10_1
    try clear hcz10_2
    try clear hcz10_3
    try clear hcz10_4
    try clear hcz12_0
    try clear hcz12_1
    try clear hcz12_2
    try clear hcz12_3
    try clear hcz12_4
    try clear hfz10_0
    try clear hfz10_1
    try clear hfz10_2
    try clear hfz10_3
    try clear hfz10_4
    try clear hfz12_0
    try clear hfz12_1
    try clear hfz12_2
    try clear hfz12_3
    try clear hfz12_4
    obtain ⟨x36_1, x172000_1, x172001_1, x172002_1, rfl, HA, HK1, HO_11, HO_34, BK170, BK171, HB⟩ := hrel
    cases gk with
    | zero => exact absurd HA.out (by simp [least_search_next.l0])
    | succ k1 =>
      have H := HA.out
      clear HA
      simp only [least_search_next.l0] at H
      by_cases c15 : x36_1 < (t175.length : Int)
      · rw [if_pos c15] at H
        have c15b0 : decide (x36_1 < (t175.length : Int)) = true := decide_eq_true c15
        clear c15
        by_cases c16 : 0 ≤ x36_1
        · rw [if_pos c16] at H
          have c16b0 : decide (0 ≤ x36_1) = true := decide_eq_true c16
          clear c16
          by_cases c17 : x36_1 < (t175.length : Int)
          · rw [if_pos c17] at H
            have c17b0 : decide (x36_1 < (t175.length : Int)) = true := decide_eq_true c17
            clear c17
            replace H := Option.bind_eq_some_iff.mp H
            obtain ⟨⟨t180, t181, t182⟩, A180, H⟩ := H
            replace H : ((early_At.f k1 t172 ((rd_T65 t175 x36_1).f2)).bind fun bt183 => (if t182 = true then (if bt183.2 = true then (if t181 ≤ bt183.1 then (if ((rd_T65 t175 x36_1).f2) = a0_1 then (some ((rd_T65 t175 x36_1).f0, t180, t181, (rd_T65 t175 x36_1).f2, true)) else ((slices_Contains_int_int.f k1 l0_4 ((rd_T65 t175 x36_1).f2)).bind fun t185 => (if t185 = true then (least_search_next.l0 k1 a2 t172 t175 (t175.length : Int) (wrap64 (x36_1 + 1)) l0_0 a0_1 a0_2 a0_3 l0_4) else (some ((rd_T65 t175 x36_1).f0, t180, t181, (rd_T65 t175 x36_1).f2, true))))) else (least_search_next.l0 k1 a2 t172 t175 (t175.length : Int) (wrap64 (x36_1 + 1)) l0_0 a0_1 a0_2 a0_3 l0_4)) else (least_search_next.l0 k1 a2 t172 t175 (t175.length : Int) (wrap64 (x36_1 + 1)) l0_0 a0_1 a0_2 a0_3 l0_4)) else (least_search_next.l0 k1 a2 t172 t175 (t175.length : Int) (wrap64 (x36_1 + 1)) l0_0 a0_1 a0_2 a0_3 l0_4))) = some (r1, r2, r3, r4, r5) := H
            have A18 := Aside0.mk A180
            clear A180
            replace H := Option.bind_eq_some_iff.mp H
            obtain ⟨⟨t183, t184⟩, A190, H⟩ := H
            replace H : (if t182 = true then (if t184 = true then (if t181 ≤ t183 then (if ((rd_T65 t175 x36_1).f2) = a0_1 then (some ((rd_T65 t175 x36_1).f0, t180, t181, (rd_T65 t175 x36_1).f2, true)) else ((slices_Contains_int_int.f k1 l0_4 ((rd_T65 t175 x36_1).f2)).bind fun t185 => (if t185 = true then (least_search_next.l0 k1 a2 t172 t175 (t175.length : Int) (wrap64 (x36_1 + 1)) l0_0 a0_1 a0_2 a0_3 l0_4) else (some ((rd_T65 t175 x36_1).f0, t180, t181, (rd_T65 t175 x36_1).f2, true))))) else (least_search_next.l0 k1 a2 t172 t175 (t175.length : Int) (wrap64 (x36_1 + 1)) l0_0 a0_1 a0_2 a0_3 l0_4)) else (least_search_next.l0 k1 a2 t172 t175 (t175.length : Int) (wrap64 (x36_1 + 1)) l0_0 a0_1 a0_2 a0_3 l0_4)) else (least_search_next.l0 k1 a2 t172 t175 (t175.length : Int) (wrap64 (x36_1 + 1)) l0_0 a0_1 a0_2 a0_3 l0_4)) = some (r1, r2, r3, r4, r5) := H
            have A19 := Aside0.mk A190
            clear A190
            by_cases c20 : t182 = true
            · subst c20
              have H1 : (if t184 = true then (if t181 ≤ t183 then (if ((rd_T65 t175 x36_1).f2) = a0_1 then (some ((rd_T65 t175 x36_1).f0, t180, t181, (rd_T65 t175 x36_1).f2, true)) else ((slices_Contains_int_int.f k1 l0_4 ((rd_T65 t175 x36_1).f2)).bind fun t185 => (if t185 = true then (least_search_next.l0 k1 a2 t172 t175 (t175.length : Int) (wrap64 (x36_1 + 1)) l0_0 a0_1 a0_2 a0_3 l0_4) else (some ((rd_T65 t175 x36_1).f0, t180, t181, (rd_T65 t175 x36_1).f2, true))))) else (least_search_next.l0 k1 a2 t172 t175 (t175.length : Int) (wrap64 (x36_1 + 1)) l0_0 a0_1 a0_2 a0_3 l0_4)) else (least_search_next.l0 k1 a2 t172 t175 (t175.length : Int) (wrap64 (x36_1 + 1)) l0_0 a0_1 a0_2 a0_3 l0_4)) = some (r1, r2, r3, r4, r5) := by rw [if_pos rfl] at H; exact H
              clear H
              have H := H1
              clear H1
              by_cases c21 : t184 = true
              · subst c21
                have H1 : (if t181 ≤ t183 then (if ((rd_T65 t175 x36_1).f2) = a0_1 then (some ((rd_T65 t175 x36_1).f0, t180, t181, (rd_T65 t175 x36_1).f2, true)) else ((slices_Contains_int_int.f k1 l0_4 ((rd_T65 t175 x36_1).f2)).bind fun t185 => (if t185 = true then (least_search_next.l0 k1 a2 t172 t175 (t175.length : Int) (wrap64 (x36_1 + 1)) l0_0 a0_1 a0_2 a0_3 l0_4) else (some ((rd_T65 t175 x36_1).f0, t180, t181, (rd_T65 t175 x36_1).f2, true))))) else (least_search_next.l0 k1 a2 t172 t175 (t175.length : Int) (wrap64 (x36_1 + 1)) l0_0 a0_1 a0_2 a0_3 l0_4)) = some (r1, r2, r3, r4, r5) := by rw [if_pos rfl] at H; exact H
                clear H
                have H := H1
                clear H1
                by_cases c22 : t181 ≤ t183
                · rw [if_pos c22] at H
                  have c22b0 : decide (t181 ≤ t183) = true := decide_eq_true c22
                  clear c22
                  by_cases c23 : ((rd_T65 t175 x36_1).f2) = a0_1
                  · rw [if_pos c23] at H
                    have c23b0 : (((rd_T65 t175 x36_1).f2) == a0_1) = true := beq_iff_eq.mpr c23
                    have c23b1 : (((rd_T65 t175 x36_1).f2) != a0_1) = false := bne_eq_false_iff_eq.mpr c23
                    clear c23
                    simp only [Option.some.injEq, Prod.mk.injEq] at H
                    obtain ⟨rfl, rfl, rfl, rfl, rfl⟩ := H
                    have p178 : 0 ≤ (x36_1 : Int) := of_decide_eq_true (by first | (with_reducible assumption) | assumption)
                    have q178 : x36_1 < (t175.length : Int) := of_decide_eq_true (by first | (with_reducible assumption) | assumption)
                    obtain ⟨ad178, e178, hx178_0, hx178_1, hx178_2, hx178_3, hx178_4, hx178_5, hx178_6, hx178_7⟩ := at_T65 (Kd.R_reads' HO_34.out).2.2 x36_1 p178 q178
                    cases e178
                    replace p178 := eq_true p178
                    replace q178 := eq_true q178
                    try go_wp2_with (first | ((with_reducible refine gate_dst (N := 13) rfl ?_); refine box_event ?hg (N := 13) ?hd (cs := #[.int .i64 0, .int .i64 0, .int .i64 0, .int .i64 0, .int .i64 0, .int .i64 0, .int .i64 0, .int .i64 0]) (t := 65) ?hr ?_; (case hd => rfl); (case hg => rfl); (case hr => first | (go_simp; done) | (go_simp; rfl)); intro gb179 hg w24 hbox hb; have n0_ := Aside0.mk (Kd.R_below (by (with_reducible repeat (first | apply Kd.R_alloc | apply Kd.R_drewN | apply Kd.R_drew)); exact HO_11.out) hb); have n1_ := Aside0.mk (Kd.R_below (Kd.R_elderB (by (with_reducible repeat (first | apply Kd.R_alloc | apply Kd.R_drewN | apply Kd.R_drew)); exact HO_34.out) gb179 (Nat.le_of_eq hg.symm)) hb); have n2_ := Aside0.mk (blk_below (g := gb170) (o := .cells #[.slice A0_0 l0_0.length c0_0, .int .i64 a0_1, .int .i64 a0_2, .int .i64 a0_3, .slice A0_4 l0_4.length c0_4] 58 (0, 0)) (by (with_reducible repeat (first | refine blk_drewN ?_ _ | refine blk_drew ?_ | refine blk_alloc ?_ _)); exact BK170.out) hb); have n3_ := Aside0.mk (blk_below (g := gb171) (o := .cells #[.int .i64 x172000_1, .int .i64 x172001_1, .int .i64 x172002_1] 56 (0, 0)) (by (with_reducible repeat (first | refine blk_drewN ?_ _ | refine blk_drew ?_ | refine blk_alloc ?_ _)); exact BK171.out) hb); have n4_ := Aside0.mk (below_step (by repeat (first | (with_reducible first | exact HB.out | apply below_alloc | apply pw_below_drewN | apply below_drew1 | refine below_set ?_ GE170.out | refine below_set ?_ GE171.out) | exact HB.out)) hb); have n5_ := Aside0.mk (hbox); have n6_ := Aside0.mk ((by rw [hg]; exact (below_size (by repeat (first | (with_reducible first | exact HB.out | apply below_alloc | apply pw_below_drewN | apply below_drew1 | refine below_set ?_ GE170.out | refine below_set ?_ GE171.out) | exact HB.out))) : w.heap.size ≤ gb179)); have n7_ := Aside0.mk ((by rw [hg]; exact (below_size (by repeat (first | (with_reducible first | exact HB.out | apply below_alloc | apply pw_below_drewN | apply below_drew1 | refine below_set ?_ GE170.out | refine below_set ?_ GE171.out) | exact HB.out))) : w.heap.size ≤ gb179)); have n8_ := Aside0.mk ((by rw [hg]; exact Nat.ne_of_lt (blk_lt (g := gb170) (o := .cells #[.slice A0_0 l0_0.length c0_0, .int .i64 a0_1, .int .i64 a0_2, .int .i64 a0_3, .slice A0_4 l0_4.length c0_4] 58 (0, 0)) (by (with_reducible repeat (first | refine blk_drewN ?_ _ | refine blk_drew ?_ | refine blk_alloc ?_ _)); exact BK170.out)) : gb170 ≠ gb179)); have n9_ := Aside0.mk ((by rw [hg]; exact Nat.ne_of_gt (blk_lt (g := gb170) (o := .cells #[.slice A0_0 l0_0.length c0_0, .int .i64 a0_1, .int .i64 a0_2, .int .i64 a0_3, .slice A0_4 l0_4.length c0_4] 58 (0, 0)) (by (with_reducible repeat (first | refine blk_drewN ?_ _ | refine blk_drew ?_ | refine blk_alloc ?_ _)); exact BK170.out)) : gb179 ≠ gb170)); have n10_ := Aside0.mk ((by rw [hg]; exact Nat.ne_of_lt (blk_lt (g := gb171) (o := .cells #[.int .i64 x172000_1, .int .i64 x172001_1, .int .i64 x172002_1] 56 (0, 0)) (by (with_reducible repeat (first | refine blk_drewN ?_ _ | refine blk_drew ?_ | refine blk_alloc ?_ _)); exact BK171.out)) : gb171 ≠ gb179)); have n11_ := Aside0.mk ((by rw [hg]; exact Nat.ne_of_gt (blk_lt (g := gb171) (o := .cells #[.int .i64 x172000_1, .int .i64 x172001_1, .int .i64 x172002_1] 56 (0, 0)) (by (with_reducible repeat (first | refine blk_drewN ?_ _ | refine blk_drew ?_ | refine blk_alloc ?_ _)); exact BK171.out)) : gb179 ≠ gb171)); clear HO_11; clear HO_34; clear BK170; clear BK171; clear HB; have HO_11 := n0_; have HO_34 := n1_; have BK170 := n2_; have BK171 := n3_; have HB := n4_; have BK179 := n5_; have GW179 := n6_; have GE179 := n7_; have NB170_179 := n8_; have NB179_170 := n9_; have NB171_179 := n10_; have NB179_171 := n11_; clear n0_ n1_ n2_ n3_ n4_ n5_ n6_ n7_ n8_ n9_ n10_ n11_; clear hb hbox hg; have hnb25 := NB179_170.out; have hnc25 := NB170_179.out; have hnb26 := NB179_171.out; have hnc26 := NB171_179.out; have hcz27_0 : w24.cell? ⟨gb179, 0, none⟩ = some (.int .i64 0) := (blk_cell BK179.out 0).trans rfl; have hcz27_1 : w24.cell? ⟨gb179, 1, none⟩ = some (.int .i64 0) := (blk_cell BK179.out 1).trans rfl; have hcz27_2 : w24.cell? ⟨gb179, 2, none⟩ = some (.int .i64 0) := (blk_cell BK179.out 2).trans rfl; have hcz27_3 : w24.cell? ⟨gb179, 3, none⟩ = some (.int .i64 0) := (blk_cell BK179.out 3).trans rfl; have hcz27_4 : w24.cell? ⟨gb179, 4, none⟩ = some (.int .i64 0) := (blk_cell BK179.out 4).trans rfl; have hcz27_5 : w24.cell? ⟨gb179, 5, none⟩ = some (.int .i64 0) := (blk_cell BK179.out 5).trans rfl; have hcz27_6 : w24.cell? ⟨gb179, 6, none⟩ = some (.int .i64 0) := (blk_cell BK179.out 6).trans rfl; have hcz27_7 : w24.cell? ⟨gb179, 7, none⟩ = some (.int .i64 0) := (blk_cell BK179.out 7).trans rfl; have hfz27_0 := blk_frozen BK179.out 0; have hfz27_1 := blk_frozen BK179.out 1; have hfz27_2 := blk_frozen BK179.out 2; have hfz27_3 := blk_frozen BK179.out 3; have hfz27_4 := blk_frozen BK179.out 4; have hfz27_5 := blk_frozen BK179.out 5; have hfz27_6 := blk_frozen BK179.out 6; have hfz27_7 := blk_frozen BK179.out 7; have hnb28 := NB170_171.out; have hnc28 := NB171_170.out; have hcz29_0 : w24.cell? ⟨gb170, 0, none⟩ = some (.slice A0_0 l0_0.length c0_0) := (blk_cell BK170.out 0).trans rfl; have hcz29_1 : w24.cell? ⟨gb170, 1, none⟩ = some (.int .i64 a0_1) := (blk_cell BK170.out 1).trans rfl; have hcz29_2 : w24.cell? ⟨gb170, 2, none⟩ = some (.int .i64 a0_2) := (blk_cell BK170.out 2).trans rfl; have hcz29_3 : w24.cell? ⟨gb170, 3, none⟩ = some (.int .i64 a0_3) := (blk_cell BK170.out 3).trans rfl; have hcz29_4 : w24.cell? ⟨gb170, 4, none⟩ = some (.slice A0_4 l0_4.length c0_4) := (blk_cell BK170.out 4).trans rfl; have hfz29_0 := blk_frozen BK170.out 0; have hfz29_1 := blk_frozen BK170.out 1; have hfz29_2 := blk_frozen BK170.out 2; have hfz29_3 := blk_frozen BK170.out 3; have hfz29_4 := blk_frozen BK170.out 4) | ((with_reducible refine gate_callee (f := 46) rfl ?_); refine goesL_ (some 45) rfl rfl Try.func46 (by kernel_rfl) rfl #[.agg #[.int .i64 ((rd_T65 t175 x36_1).f0), .int .i64 ((rd_T65 t175 x36_1).f1), .int .i64 ((rd_T65 t175 x36_1).f2), .int .i64 ((rd_T65 t175 x36_1).f3), .int .i64 ((rd_T65 t175 x36_1).f4), .int .i64 ((rd_T65 t175 x36_1).f5), .int .i64 ((rd_T65 t175 x36_1).f6), .int .i64 ((rd_T65 t175 x36_1).f7)], .int .i64 a2, .int .i64 a0_2] rfl (by (try simp only [List.map_toArray, List.map_cons, List.map_nil]); first | done | rfl | (simp only [List.length_drop, List.length_take]; rfl)) ?_; (with_reducible refine (hop_Pass.calls k1 ((rd_T65 t175 x36_1).f0) ((rd_T65 t175 x36_1).f1) ((rd_T65 t175 x36_1).f2) ((rd_T65 t175 x36_1).f3) ((rd_T65 t175 x36_1).f4) ((rd_T65 t175 x36_1).f5) ((rd_T65 t175 x36_1).f6) ((rd_T65 t175 x36_1).f7) a2 a0_2 t180 t181 true _ A18.out).mono ?_); rintro e w30 ⟨rfl, hb⟩; refine ⟨_, rfl, ?_⟩; have n0_ := Aside0.mk (Kd.R_below (by (with_reducible repeat (first | apply Kd.R_alloc | apply Kd.R_drewN | apply Kd.R_drew)); exact (Kd.R_mono (Kd.R_far (p := ⟨gb179, 7, none⟩) (Kd.R_far (p := ⟨gb179, 6, none⟩) (Kd.R_far (p := ⟨gb179, 5, none⟩) (Kd.R_far (p := ⟨gb179, 4, none⟩) (Kd.R_far (p := ⟨gb179, 3, none⟩) (Kd.R_far (p := ⟨gb179, 2, none⟩) (Kd.R_far (p := ⟨gb179, 1, none⟩) (Kd.R_far (p := ⟨gb179, 0, none⟩) (Kd.R_types HO_11.out BK179.out (by decide)) (fun _ hk => hk.2) (.int .i64 ((rd_T65 t175 x36_1).f0))) (fun _ hk => hk.2) (.int .i64 ((rd_T65 t175 x36_1).f1))) (fun _ hk => hk.2) (.int .i64 ((rd_T65 t175 x36_1).f2))) (fun _ hk => hk.2) (.int .i64 ((rd_T65 t175 x36_1).f3))) (fun _ hk => hk.2) (.int .i64 ((rd_T65 t175 x36_1).f4))) (fun _ hk => hk.2) (.int .i64 ((rd_T65 t175 x36_1).f5))) (fun _ hk => hk.2) (.int .i64 ((rd_T65 t175 x36_1).f6))) (fun _ hk => hk.2) (.int .i64 ((rd_T65 t175 x36_1).f7))) (fun _ h_ => h_.1))) hb); have n1_ := Aside0.mk (Kd.R_below (by (with_reducible repeat (first | apply Kd.R_alloc | apply Kd.R_drewN | apply Kd.R_drew)); exact (Kd.R_mono (Kd.R_far (p := ⟨gb179, 7, none⟩) (Kd.R_far (p := ⟨gb179, 6, none⟩) (Kd.R_far (p := ⟨gb179, 5, none⟩) (Kd.R_far (p := ⟨gb179, 4, none⟩) (Kd.R_far (p := ⟨gb179, 3, none⟩) (Kd.R_far (p := ⟨gb179, 2, none⟩) (Kd.R_far (p := ⟨gb179, 1, none⟩) (Kd.R_far (p := ⟨gb179, 0, none⟩) (Kd.R_mono HO_34.out (fun k_ hk => (⟨hk, hk.2⟩ : _ ∧ k_ ≠ gb179))) (fun _ hk => hk.2) (.int .i64 ((rd_T65 t175 x36_1).f0))) (fun _ hk => hk.2) (.int .i64 ((rd_T65 t175 x36_1).f1))) (fun _ hk => hk.2) (.int .i64 ((rd_T65 t175 x36_1).f2))) (fun _ hk => hk.2) (.int .i64 ((rd_T65 t175 x36_1).f3))) (fun _ hk => hk.2) (.int .i64 ((rd_T65 t175 x36_1).f4))) (fun _ hk => hk.2) (.int .i64 ((rd_T65 t175 x36_1).f5))) (fun _ hk => hk.2) (.int .i64 ((rd_T65 t175 x36_1).f6))) (fun _ hk => hk.2) (.int .i64 ((rd_T65 t175 x36_1).f7))) (fun _ h_ => h_.1))) hb); have n2_ := Aside0.mk (blk_below (g := gb170) (o := .cells #[.slice A0_0 l0_0.length c0_0, .int .i64 a0_1, .int .i64 a0_2, .int .i64 a0_3, .slice A0_4 l0_4.length c0_4] 58 (0, 0)) (by (with_reducible repeat (first | refine blk_drewN ?_ _ | refine blk_drew ?_ | refine blk_alloc ?_ _)); refine blk_far ?_ NB170_179.out _; (with_reducible repeat (first | refine blk_drewN ?_ _ | refine blk_drew ?_ | refine blk_alloc ?_ _)); refine blk_far ?_ NB170_179.out _; (with_reducible repeat (first | refine blk_drewN ?_ _ | refine blk_drew ?_ | refine blk_alloc ?_ _)); refine blk_far ?_ NB170_179.out _; (with_reducible repeat (first | refine blk_drewN ?_ _ | refine blk_drew ?_ | refine blk_alloc ?_ _)); refine blk_far ?_ NB170_179.out _; (with_reducible repeat (first | refine blk_drewN ?_ _ | refine blk_drew ?_ | refine blk_alloc ?_ _)); refine blk_far ?_ NB170_179.out _; (with_reducible repeat (first | refine blk_drewN ?_ _ | refine blk_drew ?_ | refine blk_alloc ?_ _)); refine blk_far ?_ NB170_179.out _; (with_reducible repeat (first | refine blk_drewN ?_ _ | refine blk_drew ?_ | refine blk_alloc ?_ _)); refine blk_far ?_ NB170_179.out _; (with_reducible repeat (first | refine blk_drewN ?_ _ | refine blk_drew ?_ | refine blk_alloc ?_ _)); refine blk_far ?_ NB170_179.out _; (with_reducible repeat (first | refine blk_drewN ?_ _ | refine blk_drew ?_ | refine blk_alloc ?_ _)); exact BK170.out) hb); have n3_ := Aside0.mk (blk_below (g := gb171) (o := .cells #[.int .i64 x172000_1, .int .i64 x172001_1, .int .i64 x172002_1] 56 (0, 0)) (by (with_reducible repeat (first | refine blk_drewN ?_ _ | refine blk_drew ?_ | refine blk_alloc ?_ _)); refine blk_far ?_ NB171_179.out _; (with_reducible repeat (first | refine blk_drewN ?_ _ | refine blk_drew ?_ | refine blk_alloc ?_ _)); refine blk_far ?_ NB171_179.out _; (with_reducible repeat (first | refine blk_drewN ?_ _ | refine blk_drew ?_ | refine blk_alloc ?_ _)); refine blk_far ?_ NB171_179.out _; (with_reducible repeat (first | refine blk_drewN ?_ _ | refine blk_drew ?_ | refine blk_alloc ?_ _)); refine blk_far ?_ NB171_179.out _; (with_reducible repeat (first | refine blk_drewN ?_ _ | refine blk_drew ?_ | refine blk_alloc ?_ _)); refine blk_far ?_ NB171_179.out _; (with_reducible repeat (first | refine blk_drewN ?_ _ | refine blk_drew ?_ | refine blk_alloc ?_ _)); refine blk_far ?_ NB171_179.out _; (with_reducible repeat (first | refine blk_drewN ?_ _ | refine blk_drew ?_ | refine blk_alloc ?_ _)); refine blk_far ?_ NB171_179.out _; (with_reducible repeat (first | refine blk_drewN ?_ _ | refine blk_drew ?_ | refine blk_alloc ?_ _)); refine blk_far ?_ NB171_179.out _; (with_reducible repeat (first | refine blk_drewN ?_ _ | refine blk_drew ?_ | refine blk_alloc ?_ _)); exact BK171.out) hb); have n4_ := Aside0.mk (blk_below (g := gb179) (o := .cells #[.int .i64 ((rd_T65 t175 x36_1).f0), .int .i64 ((rd_T65 t175 x36_1).f1), .int .i64 ((rd_T65 t175 x36_1).f2), .int .i64 ((rd_T65 t175 x36_1).f3), .int .i64 ((rd_T65 t175 x36_1).f4), .int .i64 ((rd_T65 t175 x36_1).f5), .int .i64 ((rd_T65 t175 x36_1).f6), .int .i64 ((rd_T65 t175 x36_1).f7)] 65 (0, 0)) (by (with_reducible repeat (first | refine blk_drewN ?_ _ | refine blk_drew ?_ | refine blk_alloc ?_ _)); refine blk_put (cs := #[.int .i64 ((rd_T65 t175 x36_1).f0), .int .i64 ((rd_T65 t175 x36_1).f1), .int .i64 ((rd_T65 t175 x36_1).f2), .int .i64 ((rd_T65 t175 x36_1).f3), .int .i64 ((rd_T65 t175 x36_1).f4), .int .i64 ((rd_T65 t175 x36_1).f5), .int .i64 ((rd_T65 t175 x36_1).f6), .int .i64 0]) ?_ 7 _ rfl; (with_reducible repeat (first | refine blk_drewN ?_ _ | refine blk_drew ?_ | refine blk_alloc ?_ _)); refine blk_put (cs := #[.int .i64 ((rd_T65 t175 x36_1).f0), .int .i64 ((rd_T65 t175 x36_1).f1), .int .i64 ((rd_T65 t175 x36_1).f2), .int .i64 ((rd_T65 t175 x36_1).f3), .int .i64 ((rd_T65 t175 x36_1).f4), .int .i64 ((rd_T65 t175 x36_1).f5), .int .i64 0, .int .i64 0]) ?_ 6 _ rfl; (with_reducible repeat (first | refine blk_drewN ?_ _ | refine blk_drew ?_ | refine blk_alloc ?_ _)); refine blk_put (cs := #[.int .i64 ((rd_T65 t175 x36_1).f0), .int .i64 ((rd_T65 t175 x36_1).f1), .int .i64 ((rd_T65 t175 x36_1).f2), .int .i64 ((rd_T65 t175 x36_1).f3), .int .i64 ((rd_T65 t175 x36_1).f4), .int .i64 0, .int .i64 0, .int .i64 0]) ?_ 5 _ rfl; (with_reducible repeat (first | refine blk_drewN ?_ _ | refine blk_drew ?_ | refine blk_alloc ?_ _)); refine blk_put (cs := #[.int .i64 ((rd_T65 t175 x36_1).f0), .int .i64 ((rd_T65 t175 x36_1).f1), .int .i64 ((rd_T65 t175 x36_1).f2), .int .i64 ((rd_T65 t175 x36_1).f3), .int .i64 0, .int .i64 0, .int .i64 0, .int .i64 0]) ?_ 4 _ rfl; (with_reducible repeat (first | refine blk_drewN ?_ _ | refine blk_drew ?_ | refine blk_alloc ?_ _)); refine blk_put (cs := #[.int .i64 ((rd_T65 t175 x36_1).f0), .int .i64 ((rd_T65 t175 x36_1).f1), .int .i64 ((rd_T65 t175 x36_1).f2), .int .i64 0, .int .i64 0, .int .i64 0, .int .i64 0, .int .i64 0]) ?_ 3 _ rfl; (with_reducible repeat (first | refine blk_drewN ?_ _ | refine blk_drew ?_ | refine blk_alloc ?_ _)); refine blk_put (cs := #[.int .i64 ((rd_T65 t175 x36_1).f0), .int .i64 ((rd_T65 t175 x36_1).f1), .int .i64 0, .int .i64 0, .int .i64 0, .int .i64 0, .int .i64 0, .int .i64 0]) ?_ 2 _ rfl; (with_reducible repeat (first | refine blk_drewN ?_ _ | refine blk_drew ?_ | refine blk_alloc ?_ _)); refine blk_put (cs := #[.int .i64 ((rd_T65 t175 x36_1).f0), .int .i64 0, .int .i64 0, .int .i64 0, .int .i64 0, .int .i64 0, .int .i64 0, .int .i64 0]) ?_ 1 _ rfl; (with_reducible repeat (first | refine blk_drewN ?_ _ | refine blk_drew ?_ | refine blk_alloc ?_ _)); refine blk_put (cs := #[.int .i64 0, .int .i64 0, .int .i64 0, .int .i64 0, .int .i64 0, .int .i64 0, .int .i64 0, .int .i64 0]) ?_ 0 _ rfl; (with_reducible repeat (first | refine blk_drewN ?_ _ | refine blk_drew ?_ | refine blk_alloc ?_ _)); exact BK179.out) hb); have n5_ := Aside0.mk (below_step (by repeat (first | (with_reducible first | exact HB.out | apply below_alloc | apply pw_below_drewN | apply below_drew1 | refine below_set ?_ GE170.out | refine below_set ?_ GE171.out | refine below_set ?_ GE179.out) | exact HB.out)) hb); clear HO_11; clear HO_34; clear BK170; clear BK171; clear BK179; clear HB; have HO_11 := n0_; have HO_34 := n1_; have BK170 := n2_; have BK171 := n3_; have BK179 := n4_; have HB := n5_; clear n0_ n1_ n2_ n3_ n4_ n5_; (try clear hb); (try clear hb2); (try clear hk); (try clear hi); have hcz31_0 : w30.cell? ⟨gb179, 0, none⟩ = some (.int .i64 ((rd_T65 t175 x36_1).f0)) := (blk_cell BK179.out 0).trans rfl; have hcz31_1 : w30.cell? ⟨gb179, 1, none⟩ = some (.int .i64 ((rd_T65 t175 x36_1).f1)) := (blk_cell BK179.out 1).trans rfl; have hcz31_2 : w30.cell? ⟨gb179, 2, none⟩ = some (.int .i64 ((rd_T65 t175 x36_1).f2)) := (blk_cell BK179.out 2).trans rfl; have hcz31_3 : w30.cell? ⟨gb179, 3, none⟩ = some (.int .i64 ((rd_T65 t175 x36_1).f3)) := (blk_cell BK179.out 3).trans rfl; have hcz31_4 : w30.cell? ⟨gb179, 4, none⟩ = some (.int .i64 ((rd_T65 t175 x36_1).f4)) := (blk_cell BK179.out 4).trans rfl; have hcz31_5 : w30.cell? ⟨gb179, 5, none⟩ = some (.int .i64 ((rd_T65 t175 x36_1).f5)) := (blk_cell BK179.out 5).trans rfl; have hcz31_6 : w30.cell? ⟨gb179, 6, none⟩ = some (.int .i64 ((rd_T65 t175 x36_1).f6)) := (blk_cell BK179.out 6).trans rfl; have hcz31_7 : w30.cell? ⟨gb179, 7, none⟩ = some (.int .i64 ((rd_T65 t175 x36_1).f7)) := (blk_cell BK179.out 7).trans rfl; have hfz31_0 := blk_frozen BK179.out 0; have hfz31_1 := blk_frozen BK179.out 1; have hfz31_2 := blk_frozen BK179.out 2; have hfz31_3 := blk_frozen BK179.out 3; have hfz31_4 := blk_frozen BK179.out 4; have hfz31_5 := blk_frozen BK179.out 5; have hfz31_6 := blk_frozen BK179.out 6; have hfz31_7 := blk_frozen BK179.out 7; obtain ⟨Ao32, co32, eo32⟩ := Kd.R_slice HO_11.out; subst eo32) | ((with_reducible refine gate_callee (f := 20) rfl ?_); refine goesL_ (some 53) rfl rfl Try.func20 (by kernel_rfl) rfl #[.slice Ao32 t172.length co32, .int .i64 ((rd_T65 t175 x36_1).f2)] rfl (by (try simp only [List.map_toArray, List.map_cons, List.map_nil]); first | done | rfl | (simp only [List.length_drop, List.length_take]; rfl)) ?_; (with_reducible refine (early_At.calls k1 _ _ t172 ((rd_T65 t175 x36_1).f2) t183 true _ ?side1 ?side2 A19.out).mono ?_); (case side1 => repeat (first | exact (Kd.R_reads' HO_11.out).2.2 | (with_reducible refine Kd.C_alloc ?_ _) | (with_reducible refine Kd.C_drewN ?_ _) | (with_reducible refine Kd.C_drew ?_))); (case side2 => exact (Kd.R_reads' HO_11.out).2.1); rintro e w33 ⟨rfl, hb⟩; refine ⟨_, rfl, ?_⟩; have n0_ := Aside0.mk (Kd.R_below (by (with_reducible repeat (first | apply Kd.R_alloc | apply Kd.R_drewN | apply Kd.R_drew)); exact HO_11.out) hb); have n1_ := Aside0.mk (Kd.R_below (by (with_reducible repeat (first | apply Kd.R_alloc | apply Kd.R_drewN | apply Kd.R_drew)); exact HO_34.out) hb); have n2_ := Aside0.mk (blk_below (g := gb170) (o := .cells #[.slice A0_0 l0_0.length c0_0, .int .i64 a0_1, .int .i64 a0_2, .int .i64 a0_3, .slice A0_4 l0_4.length c0_4] 58 (0, 0)) (by (with_reducible repeat (first | refine blk_drewN ?_ _ | refine blk_drew ?_ | refine blk_alloc ?_ _)); exact BK170.out) hb); have n3_ := Aside0.mk (blk_below (g := gb171) (o := .cells #[.int .i64 x172000_1, .int .i64 x172001_1, .int .i64 x172002_1] 56 (0, 0)) (by (with_reducible repeat (first | refine blk_drewN ?_ _ | refine blk_drew ?_ | refine blk_alloc ?_ _)); exact BK171.out) hb); have n4_ := Aside0.mk (blk_below (g := gb179) (o := .cells #[.int .i64 ((rd_T65 t175 x36_1).f0), .int .i64 ((rd_T65 t175 x36_1).f1), .int .i64 ((rd_T65 t175 x36_1).f2), .int .i64 ((rd_T65 t175 x36_1).f3), .int .i64 ((rd_T65 t175 x36_1).f4), .int .i64 ((rd_T65 t175 x36_1).f5), .int .i64 ((rd_T65 t175 x36_1).f6), .int .i64 ((rd_T65 t175 x36_1).f7)] 65 (0, 0)) (by (with_reducible repeat (first | refine blk_drewN ?_ _ | refine blk_drew ?_ | refine blk_alloc ?_ _)); exact BK179.out) hb); have n5_ := Aside0.mk (below_step (by repeat (first | (with_reducible first | exact HB.out | apply below_alloc | apply pw_below_drewN | apply below_drew1 | refine below_set ?_ GE170.out | refine below_set ?_ GE171.out | refine below_set ?_ GE179.out) | exact HB.out)) hb); clear HO_11; clear HO_34; clear BK170; clear BK171; clear BK179; clear HB; have HO_11 := n0_; have HO_34 := n1_; have BK170 := n2_; have BK171 := n3_; have BK179 := n4_; have HB := n5_; clear n0_ n1_ n2_ n3_ n4_ n5_; (try clear hb); (try clear hb2); (try clear hk); (try clear hi); have hcz34_0 : w33.cell? ⟨gb179, 0, none⟩ = some (.int .i64 ((rd_T65 t175 x36_1).f0)) := (blk_cell BK179.out 0).trans rfl; have hcz34_1 : w33.cell? ⟨gb179, 1, none⟩ = some (.int .i64 ((rd_T65 t175 x36_1).f1)) := (blk_cell BK179.out 1).trans rfl; have hcz34_2 : w33.cell? ⟨gb179, 2, none⟩ = some (.int .i64 ((rd_T65 t175 x36_1).f2)) := (blk_cell BK179.out 2).trans rfl; have hcz34_3 : w33.cell? ⟨gb179, 3, none⟩ = some (.int .i64 ((rd_T65 t175 x36_1).f3)) := (blk_cell BK179.out 3).trans rfl; have hcz34_4 : w33.cell? ⟨gb179, 4, none⟩ = some (.int .i64 ((rd_T65 t175 x36_1).f4)) := (blk_cell BK179.out 4).trans rfl; have hcz34_5 : w33.cell? ⟨gb179, 5, none⟩ = some (.int .i64 ((rd_T65 t175 x36_1).f5)) := (blk_cell BK179.out 5).trans rfl; have hcz34_6 : w33.cell? ⟨gb179, 6, none⟩ = some (.int .i64 ((rd_T65 t175 x36_1).f6)) := (blk_cell BK179.out 6).trans rfl; have hcz34_7 : w33.cell? ⟨gb179, 7, none⟩ = some (.int .i64 ((rd_T65 t175 x36_1).f7)) := (blk_cell BK179.out 7).trans rfl; have hfz34_0 := blk_frozen BK179.out 0; have hfz34_1 := blk_frozen BK179.out 1; have hfz34_2 := blk_frozen BK179.out 2; have hfz34_3 := blk_frozen BK179.out 3; have hfz34_4 := blk_frozen BK179.out 4; have hfz34_5 := blk_frozen BK179.out 5; have hfz34_6 := blk_frozen BK179.out 6; have hfz34_7 := blk_frozen BK179.out 7; have hcz35_0 : w33.cell? ⟨gb170, 0, none⟩ = some (.slice A0_0 l0_0.length c0_0) := (blk_cell BK170.out 0).trans rfl; have hcz35_1 : w33.cell? ⟨gb170, 1, none⟩ = some (.int .i64 a0_1) := (blk_cell BK170.out 1).trans rfl; have hcz35_2 : w33.cell? ⟨gb170, 2, none⟩ = some (.int .i64 a0_2) := (blk_cell BK170.out 2).trans rfl; have hcz35_3 : w33.cell? ⟨gb170, 3, none⟩ = some (.int .i64 a0_3) := (blk_cell BK170.out 3).trans rfl; have hcz35_4 : w33.cell? ⟨gb170, 4, none⟩ = some (.slice A0_4 l0_4.length c0_4) := (blk_cell BK170.out 4).trans rfl; have hfz35_0 := blk_frozen BK170.out 0; have hfz35_1 := blk_frozen BK170.out 1; have hfz35_2 := blk_frozen BK170.out 2; have hfz35_3 := blk_frozen BK170.out 3; have hfz35_4 := blk_frozen BK170.out 4))
                    have n0_ := Aside0.mk (Kd.R_drew HO_11.out)
                    have n1_ := Aside0.mk (Kd.R_drew HO_34.out)
                    have n2_ := Aside0.mk (blk_drew BK170.out)
                    have n3_ := Aside0.mk (blk_drew BK171.out)
                    have n4_ := Aside0.mk (blk_drew BK179.out)
                    have n5_ := Aside0.mk (below_drew1 HB.out)
                    clear HO_11
                    clear HO_34
                    clear BK170
                    clear BK171
                    clear BK179
                    clear HB
                    have HO_11 := n0_
                    have HO_34 := n1_
                    have BK170 := n2_
                    have BK171 := n3_
                    have BK179 := n4_
                    have HB := n5_
                    clear n0_ n1_ n2_ n3_ n4_ n5_
                    refine start_ (n := 10) (S := fun w' => w'.cell? ⟨gb179, 0, none⟩ = some (.int .i64 ((rd_T65 t175 x36_1).f0)) ∧ w'.cell? ⟨gb179, 1, none⟩ = some (.int .i64 ((rd_T65 t175 x36_1).f1)) ∧ w'.cell? ⟨gb179, 2, none⟩ = some (.int .i64 ((rd_T65 t175 x36_1).f2)) ∧ w'.cell? ⟨gb179, 3, none⟩ = some (.int .i64 ((rd_T65 t175 x36_1).f3)) ∧ w'.cell? ⟨gb179, 4, none⟩ = some (.int .i64 ((rd_T65 t175 x36_1).f4)) ∧ w'.cell? ⟨gb179, 5, none⟩ = some (.int .i64 ((rd_T65 t175 x36_1).f5)) ∧ w'.cell? ⟨gb179, 6, none⟩ = some (.int .i64 ((rd_T65 t175 x36_1).f6)) ∧ w'.cell? ⟨gb179, 7, none⟩ = some (.int .i64 ((rd_T65 t175 x36_1).f7))) (ds := []) #[false, false, false, false, false, false, false, false, false, false] (by kernel_rfl) rfl rfl ⟨(blk_cell BK179.out 0).trans rfl, (blk_cell BK179.out 1).trans rfl, (blk_cell BK179.out 2).trans rfl, (blk_cell BK179.out 3).trans rfl, (blk_cell BK179.out 4).trans rfl, (blk_cell BK179.out 5).trans rfl, (blk_cell BK179.out 6).trans rfl, (blk_cell BK179.out 7).trans rfl⟩ (fun hHeld => ?_); refine with_tabW least_search_next.tab8 least_search_next.bits8 (fun HT_ HW_ => ?_)
                    generalize w33.drew = w36 at HO_11 HO_34 BK170 BK171 BK179 HB hHeld ⊢
                    refine pure_ (i := 0) (N := some 80) (v := ?_) (a' := ?_) #[true, false, false, false, false, false, false, false, false, false] rfl rfl (any_of HT_.out (by kernel_rfl)) (fun _ _ _ h => h) (Or.inl ⟨by rfl, ?_⟩) ?_ ?_
                    rotate_left
                    · intro w'
                      go_simp
                      with_reducible rfl
                    rotate_left
                    · simp only [Act.put, List.setIfInBounds_toArray, List.set_cons_zero, List.set_cons_succ, i64_w, i32_w]
                      rfl
                    refine pure_ (i := 2) (N := some 82) (v := ?_) (a' := ?_) #[true, false, true, false, false, false, false, false, false, false] rfl rfl (any_of HT_.out (by kernel_rfl)) (fun _ _ _ h => h) (Or.inl ⟨by rfl, ?_⟩) ?_ ?_
                    rotate_left
                    · intro w'
                      go_simp
                      with_reducible rfl
                    rotate_left
                    · simp only [Act.put, List.setIfInBounds_toArray, List.set_cons_zero, List.set_cons_succ, i64_w, i32_w]
                      rfl
                    refine pure_ (i := 3) (N := some 83) (v := ?_) (a' := ?_) #[true, false, true, true, false, false, false, false, false, false] rfl rfl (any_of HT_.out (by kernel_rfl)) (fun _ _ _ h => h) (Or.inl ⟨by rfl, ?_⟩) ?_ ?_
                    rotate_left
                    · intro w'
                      go_simp
                      with_reducible rfl
                    rotate_left
                    · simp only [Act.put, List.setIfInBounds_toArray, List.set_cons_zero, List.set_cons_succ, i64_w, i32_w]
                      rfl
                    refine pure_ (i := 5) (N := some 85) (v := ?_) (a' := ?_) #[true, false, true, true, false, true, false, false, false, false] rfl rfl (any_of HT_.out (by kernel_rfl)) (fun _ _ _ h => h) (Or.inl ⟨by rfl, ?_⟩) ?_ ?_
                    rotate_left
                    · intro w'
                      go_simp
                      with_reducible rfl
                    rotate_left
                    · simp only [Act.put, List.setIfInBounds_toArray, List.set_cons_zero, List.set_cons_succ, i64_w, i32_w]
                      rfl
                    refine take_ (i := 1) (N := some 81) (v := ?_) (a' := ?_) #[true, true, true, true, false, true, false, false, false, false] rfl rfl (take_ofW HT_.out HW_.out (by kernel_rfl)) (fun _ _ _ h => h) (Or.inl ⟨by rfl, ?_⟩) hHeld ?_ ?_
                    rotate_left
                    · rintro w' ⟨s0, s1, s2, s3, s4, s5, s6, s7⟩
                      go_simp
                      with_reducible rfl
                    rotate_left
                    · simp only [Act.put, List.setIfInBounds_toArray, List.set_cons_zero, List.set_cons_succ, i64_w, i32_w]
                      rfl
                    refine pure_ (i := 4) (N := some 84) (v := ?_) (a' := ?_) #[true, true, true, true, true, true, false, false, false, false] rfl rfl (any_of HT_.out (by kernel_rfl)) (fun _ _ _ h => h) (Or.inl ⟨by rfl, ?_⟩) ?_ ?_
                    rotate_left
                    · intro w'
                      go_simp
                      with_reducible rfl
                    rotate_left
                    · simp only [Act.put, List.setIfInBounds_toArray, List.set_cons_zero, List.set_cons_succ, i64_w, i32_w]
                      rfl
                    refine take_ (i := 6) (N := some 86) (v := ?_) (a' := ?_) #[true, true, true, true, true, true, true, false, false, false] rfl rfl (take_ofW HT_.out HW_.out (by kernel_rfl)) (fun _ _ _ h => h) (Or.inl ⟨by rfl, ?_⟩) hHeld ?_ ?_
                    rotate_left
                    · rintro w' ⟨s0, s1, s2, s3, s4, s5, s6, s7⟩
                      go_simp
                      with_reducible rfl
                    rotate_left
                    · simp only [Act.put, List.setIfInBounds_toArray, List.set_cons_zero, List.set_cons_succ, i64_w, i32_w]
                      rfl
                    refine one_ (i := 7) (N := none) #[true, true, true, true, true, true, true, true, false, false] rfl rfl (one_of HT_.out (by kernel_rfl)) (by decide) (fun K hK => ?_)
                    have hs37 : w36.cell? ⟨gb171, 0, none⟩ = some (.int .i64 x172000_1) := (blk_cell BK171.out 0).trans rfl
                    have hfs37 := blk_frozen BK171.out 0
                    have hns37_0 := NB170_171.out
                    have hns37_2 := NB179_171.out
                    have hms37_0 := NB171_170.out
                    have hms37_2 := NB171_179.out
                    have hs38 : w36.cell? ⟨gb171, 1, none⟩ = some (.int .i64 x172001_1) := (blk_cell BK171.out 1).trans rfl
                    have hfs38 := blk_frozen BK171.out 1
                    have hns38_0 := NB170_171.out
                    have hns38_2 := NB179_171.out
                    have hms38_0 := NB171_170.out
                    have hms38_2 := NB171_179.out
                    have hs39 : w36.cell? ⟨gb171, 2, none⟩ = some (.int .i64 x172002_1) := (blk_cell BK171.out 2).trans rfl
                    have hfs39 := blk_frozen BK171.out 2
                    have hns39_0 := NB170_171.out
                    have hns39_2 := NB179_171.out
                    have hms39_0 := NB171_170.out
                    have hms39_2 := NB171_179.out
                    refine skip_ (w1 := ?_) (by rfl) rfl ?_ ?_
                    rotate_left
                    · go_simp
                      rfl
                    refine hK.out _ _ ⟨((cell_far (p := ⟨gb171, _, none⟩) NB179_171.out _).trans (((cell_far (p := ⟨gb171, _, none⟩) NB179_171.out _).trans (((cell_far (p := ⟨gb171, _, none⟩) NB179_171.out _).trans (hHeld.1)))))), ((cell_far (p := ⟨gb171, _, none⟩) NB179_171.out _).trans (((cell_far (p := ⟨gb171, _, none⟩) NB179_171.out _).trans (((cell_far (p := ⟨gb171, _, none⟩) NB179_171.out _).trans (hHeld.2.1)))))), ((cell_far (p := ⟨gb171, _, none⟩) NB179_171.out _).trans (((cell_far (p := ⟨gb171, _, none⟩) NB179_171.out _).trans (((cell_far (p := ⟨gb171, _, none⟩) NB179_171.out _).trans (hHeld.2.2.1)))))), ((cell_far (p := ⟨gb171, _, none⟩) NB179_171.out _).trans (((cell_far (p := ⟨gb171, _, none⟩) NB179_171.out _).trans (((cell_far (p := ⟨gb171, _, none⟩) NB179_171.out _).trans (hHeld.2.2.2.1)))))), ((cell_far (p := ⟨gb171, _, none⟩) NB179_171.out _).trans (((cell_far (p := ⟨gb171, _, none⟩) NB179_171.out _).trans (((cell_far (p := ⟨gb171, _, none⟩) NB179_171.out _).trans (hHeld.2.2.2.2.1)))))), ((cell_far (p := ⟨gb171, _, none⟩) NB179_171.out _).trans (((cell_far (p := ⟨gb171, _, none⟩) NB179_171.out _).trans (((cell_far (p := ⟨gb171, _, none⟩) NB179_171.out _).trans (hHeld.2.2.2.2.2.1)))))), ((cell_far (p := ⟨gb171, _, none⟩) NB179_171.out _).trans (((cell_far (p := ⟨gb171, _, none⟩) NB179_171.out _).trans (((cell_far (p := ⟨gb171, _, none⟩) NB179_171.out _).trans (hHeld.2.2.2.2.2.2.1)))))), ((cell_far (p := ⟨gb171, _, none⟩) NB179_171.out _).trans (((cell_far (p := ⟨gb171, _, none⟩) NB179_171.out _).trans (((cell_far (p := ⟨gb171, _, none⟩) NB179_171.out _).trans (hHeld.2.2.2.2.2.2.2))))))⟩ (fun hHeld => ?_)
                    clear hK K
                    refine pure_ (i := 8) (N := some 9) (v := ?_) (a' := ?_) #[true, true, true, true, true, true, true, true, true, false] rfl rfl (any_of HT_.out (by kernel_rfl)) (fun _ _ _ h => h) (Or.inl ⟨by rfl, ?_⟩) ?_ ?_
                    rotate_left
                    · intro w'
                      go_simp
                      with_reducible rfl
                    rotate_left
                    · simp only [Act.put, List.setIfInBounds_toArray, List.set_cons_zero, List.set_cons_succ, i64_w, i32_w]
                      rfl
                    refine pure_ (i := 9) (N := some 10) (v := ?_) (a' := ?_) #[true, true, true, true, true, true, true, true, true, true] rfl rfl (any_of HT_.out (by kernel_rfl)) (fun _ _ _ h => h) (Or.inl ⟨by rfl, ?_⟩) ?_ ?_
                    rotate_left
                    · intro w'
                      go_simp
                      with_reducible rfl
                    rotate_left
                    · simp only [Act.put, List.setIfInBounds_toArray, List.set_cons_zero, List.set_cons_succ, i64_w, i32_w]
                      rfl
                    refine done_ (done_of HT_.out (by kernel_rfl)) ?_
                    try go_wp2
                    refine bodyPost_ret (results_ctt rfl _ _ gb171 56 #[.int .i64 ((rd_T65 t175 x36_1).f0), .int .i64 t180, .int .i64 t181] (0, 0) _ rfl (by (with_reducible repeat (first | refine blk_drewN ?_ _ | refine blk_drew ?_ | refine blk_alloc ?_ _)); refine blk_put (cs := #[.int .i64 ((rd_T65 t175 x36_1).f0), .int .i64 t180, .int .i64 x172002_1]) ?_ 2 _ rfl; (with_reducible repeat (first | refine blk_drewN ?_ _ | refine blk_drew ?_ | refine blk_alloc ?_ _)); refine blk_put (cs := #[.int .i64 ((rd_T65 t175 x36_1).f0), .int .i64 x172001_1, .int .i64 x172002_1]) ?_ 1 _ rfl; (with_reducible repeat (first | refine blk_drewN ?_ _ | refine blk_drew ?_ | refine blk_alloc ?_ _)); refine blk_put (cs := #[.int .i64 x172000_1, .int .i64 x172001_1, .int .i64 x172002_1]) ?_ 0 _ rfl; (with_reducible repeat (first | refine blk_drewN ?_ _ | refine blk_drew ?_ | refine blk_alloc ?_ _)); exact BK171.out) Try.underlying56 rfl (by kernel_rfl)) rfl ?_
                    exact ⟨by first | rfl | (simp [errW_none, errW_some] <;> rfl) | (simp [*, errW_none, errW_some] <;> rfl), by repeat (first | (with_reducible first | exact HB.out | apply below_alloc | apply pw_below_drewN | apply below_drew1 | refine below_set ?_ GE170.out | refine below_set ?_ GE171.out | refine below_set ?_ GE179.out) | exact HB.out)⟩
                  · rw [if_neg c23] at H
                    have c23b0 : (((rd_T65 t175 x36_1).f2) == a0_1) = false := beq_eq_false_iff_ne.mpr c23
                    have c23b1 : (((rd_T65 t175 x36_1).f2) != a0_1) = true := bne_iff_ne.mpr c23
                    replace H := Option.bind_eq_some_iff.mp H
                    obtain ⟨t185, A400, H⟩ := H
                    replace H : (if t185 = true then (least_search_next.l0 k1 a2 t172 t175 (t175.length : Int) (wrap64 (x36_1 + 1)) l0_0 a0_1 a0_2 a0_3 l0_4) else (some ((rd_T65 t175 x36_1).f0, t180, t181, (rd_T65 t175 x36_1).f2, true))) = some (r1, r2, r3, r4, r5) := H
                    have A40 := Aside0.mk A400
                    clear A400
                    by_cases c41 : t185 = true
                    · subst c41
                      have H1 : (least_search_next.l0 k1 a2 t172 t175 (t175.length : Int) (wrap64 (x36_1 + 1)) l0_0 a0_1 a0_2 a0_3 l0_4) = some (r1, r2, r3, r4, r5) := by rw [if_pos rfl] at H; exact H
                      clear H
                      have H := H1
                      clear H1
                      have H' := Aside0.mk H
                      clear H
                      have p178 : 0 ≤ (x36_1 : Int) := of_decide_eq_true (by first | (with_reducible assumption) | assumption)
                      have q178 : x36_1 < (t175.length : Int) := of_decide_eq_true (by first | (with_reducible assumption) | assumption)
                      obtain ⟨ad178, e178, hx178_0, hx178_1, hx178_2, hx178_3, hx178_4, hx178_5, hx178_6, hx178_7⟩ := at_T65 (Kd.R_reads' HO_34.out).2.2 x36_1 p178 q178
                      cases e178
                      replace p178 := eq_true p178
                      replace q178 := eq_true q178
                      go_wp2_with (first | ((with_reducible refine gate_dst (N := 13) rfl ?_); refine box_event ?hg (N := 13) ?hd (cs := #[.int .i64 0, .int .i64 0, .int .i64 0, .int .i64 0, .int .i64 0, .int .i64 0, .int .i64 0, .int .i64 0]) (t := 65) ?hr ?_; (case hd => rfl); (case hg => rfl); (case hr => first | (go_simp; done) | (go_simp; rfl)); intro gb179 hg w42 hbox hb; have n0_ := Aside0.mk (Kd.R_below (by (with_reducible repeat (first | apply Kd.R_alloc | apply Kd.R_drewN | apply Kd.R_drew)); exact HO_11.out) hb); have n1_ := Aside0.mk (Kd.R_below (Kd.R_elderB (by (with_reducible repeat (first | apply Kd.R_alloc | apply Kd.R_drewN | apply Kd.R_drew)); exact HO_34.out) gb179 (Nat.le_of_eq hg.symm)) hb); have n2_ := Aside0.mk (blk_below (g := gb170) (o := .cells #[.slice A0_0 l0_0.length c0_0, .int .i64 a0_1, .int .i64 a0_2, .int .i64 a0_3, .slice A0_4 l0_4.length c0_4] 58 (0, 0)) (by (with_reducible repeat (first | refine blk_drewN ?_ _ | refine blk_drew ?_ | refine blk_alloc ?_ _)); exact BK170.out) hb); have n3_ := Aside0.mk (blk_below (g := gb171) (o := .cells #[.int .i64 x172000_1, .int .i64 x172001_1, .int .i64 x172002_1] 56 (0, 0)) (by (with_reducible repeat (first | refine blk_drewN ?_ _ | refine blk_drew ?_ | refine blk_alloc ?_ _)); exact BK171.out) hb); have n4_ := Aside0.mk (below_step (by repeat (first | (with_reducible first | exact HB.out | apply below_alloc | apply pw_below_drewN | apply below_drew1 | refine below_set ?_ GE170.out | refine below_set ?_ GE171.out) | exact HB.out)) hb); have n5_ := Aside0.mk (hbox); have n6_ := Aside0.mk ((by rw [hg]; exact (below_size (by repeat (first | (with_reducible first | exact HB.out | apply below_alloc | apply pw_below_drewN | apply below_drew1 | refine below_set ?_ GE170.out | refine below_set ?_ GE171.out) | exact HB.out))) : w.heap.size ≤ gb179)); have n7_ := Aside0.mk ((by rw [hg]; exact (below_size (by repeat (first | (with_reducible first | exact HB.out | apply below_alloc | apply pw_below_drewN | apply below_drew1 | refine below_set ?_ GE170.out | refine below_set ?_ GE171.out) | exact HB.out))) : w.heap.size ≤ gb179)); have n8_ := Aside0.mk ((by rw [hg]; exact Nat.ne_of_lt (blk_lt (g := gb170) (o := .cells #[.slice A0_0 l0_0.length c0_0, .int .i64 a0_1, .int .i64 a0_2, .int .i64 a0_3, .slice A0_4 l0_4.length c0_4] 58 (0, 0)) (by (with_reducible repeat (first | refine blk_drewN ?_ _ | refine blk_drew ?_ | refine blk_alloc ?_ _)); exact BK170.out)) : gb170 ≠ gb179)); have n9_ := Aside0.mk ((by rw [hg]; exact Nat.ne_of_gt (blk_lt (g := gb170) (o := .cells #[.slice A0_0 l0_0.length c0_0, .int .i64 a0_1, .int .i64 a0_2, .int .i64 a0_3, .slice A0_4 l0_4.length c0_4] 58 (0, 0)) (by (with_reducible repeat (first | refine blk_drewN ?_ _ | refine blk_drew ?_ | refine blk_alloc ?_ _)); exact BK170.out)) : gb179 ≠ gb170)); have n10_ := Aside0.mk ((by rw [hg]; exact Nat.ne_of_lt (blk_lt (g := gb171) (o := .cells #[.int .i64 x172000_1, .int .i64 x172001_1, .int .i64 x172002_1] 56 (0, 0)) (by (with_reducible repeat (first | refine blk_drewN ?_ _ | refine blk_drew ?_ | refine blk_alloc ?_ _)); exact BK171.out)) : gb171 ≠ gb179)); have n11_ := Aside0.mk ((by rw [hg]; exact Nat.ne_of_gt (blk_lt (g := gb171) (o := .cells #[.int .i64 x172000_1, .int .i64 x172001_1, .int .i64 x172002_1] 56 (0, 0)) (by (with_reducible repeat (first | refine blk_drewN ?_ _ | refine blk_drew ?_ | refine blk_alloc ?_ _)); exact BK171.out)) : gb179 ≠ gb171)); clear HO_11; clear HO_34; clear BK170; clear BK171; clear HB; have HO_11 := n0_; have HO_34 := n1_; have BK170 := n2_; have BK171 := n3_; have HB := n4_; have BK179 := n5_; have GW179 := n6_; have GE179 := n7_; have NB170_179 := n8_; have NB179_170 := n9_; have NB171_179 := n10_; have NB179_171 := n11_; clear n0_ n1_ n2_ n3_ n4_ n5_ n6_ n7_ n8_ n9_ n10_ n11_; clear hb hbox hg; have hnb43 := NB179_170.out; have hnc43 := NB170_179.out; have hnb44 := NB179_171.out; have hnc44 := NB171_179.out; have hcz45_0 : w42.cell? ⟨gb179, 0, none⟩ = some (.int .i64 0) := (blk_cell BK179.out 0).trans rfl; have hcz45_1 : w42.cell? ⟨gb179, 1, none⟩ = some (.int .i64 0) := (blk_cell BK179.out 1).trans rfl; have hcz45_2 : w42.cell? ⟨gb179, 2, none⟩ = some (.int .i64 0) := (blk_cell BK179.out 2).trans rfl; have hcz45_3 : w42.cell? ⟨gb179, 3, none⟩ = some (.int .i64 0) := (blk_cell BK179.out 3).trans rfl; have hcz45_4 : w42.cell? ⟨gb179, 4, none⟩ = some (.int .i64 0) := (blk_cell BK179.out 4).trans rfl; have hcz45_5 : w42.cell? ⟨gb179, 5, none⟩ = some (.int .i64 0) := (blk_cell BK179.out 5).trans rfl; have hcz45_6 : w42.cell? ⟨gb179, 6, none⟩ = some (.int .i64 0) := (blk_cell BK179.out 6).trans rfl; have hcz45_7 : w42.cell? ⟨gb179, 7, none⟩ = some (.int .i64 0) := (blk_cell BK179.out 7).trans rfl; have hfz45_0 := blk_frozen BK179.out 0; have hfz45_1 := blk_frozen BK179.out 1; have hfz45_2 := blk_frozen BK179.out 2; have hfz45_3 := blk_frozen BK179.out 3; have hfz45_4 := blk_frozen BK179.out 4; have hfz45_5 := blk_frozen BK179.out 5; have hfz45_6 := blk_frozen BK179.out 6; have hfz45_7 := blk_frozen BK179.out 7; have hnb46 := NB170_171.out; have hnc46 := NB171_170.out; have hcz47_0 : w42.cell? ⟨gb170, 0, none⟩ = some (.slice A0_0 l0_0.length c0_0) := (blk_cell BK170.out 0).trans rfl; have hcz47_1 : w42.cell? ⟨gb170, 1, none⟩ = some (.int .i64 a0_1) := (blk_cell BK170.out 1).trans rfl; have hcz47_2 : w42.cell? ⟨gb170, 2, none⟩ = some (.int .i64 a0_2) := (blk_cell BK170.out 2).trans rfl; have hcz47_3 : w42.cell? ⟨gb170, 3, none⟩ = some (.int .i64 a0_3) := (blk_cell BK170.out 3).trans rfl; have hcz47_4 : w42.cell? ⟨gb170, 4, none⟩ = some (.slice A0_4 l0_4.length c0_4) := (blk_cell BK170.out 4).trans rfl; have hfz47_0 := blk_frozen BK170.out 0; have hfz47_1 := blk_frozen BK170.out 1; have hfz47_2 := blk_frozen BK170.out 2; have hfz47_3 := blk_frozen BK170.out 3; have hfz47_4 := blk_frozen BK170.out 4) | ((with_reducible refine gate_callee (f := 46) rfl ?_); refine goesL_ (some 45) rfl rfl Try.func46 (by kernel_rfl) rfl #[.agg #[.int .i64 ((rd_T65 t175 x36_1).f0), .int .i64 ((rd_T65 t175 x36_1).f1), .int .i64 ((rd_T65 t175 x36_1).f2), .int .i64 ((rd_T65 t175 x36_1).f3), .int .i64 ((rd_T65 t175 x36_1).f4), .int .i64 ((rd_T65 t175 x36_1).f5), .int .i64 ((rd_T65 t175 x36_1).f6), .int .i64 ((rd_T65 t175 x36_1).f7)], .int .i64 a2, .int .i64 a0_2] rfl (by (try simp only [List.map_toArray, List.map_cons, List.map_nil]); first | done | rfl | (simp only [List.length_drop, List.length_take]; rfl)) ?_; (with_reducible refine (hop_Pass.calls k1 ((rd_T65 t175 x36_1).f0) ((rd_T65 t175 x36_1).f1) ((rd_T65 t175 x36_1).f2) ((rd_T65 t175 x36_1).f3) ((rd_T65 t175 x36_1).f4) ((rd_T65 t175 x36_1).f5) ((rd_T65 t175 x36_1).f6) ((rd_T65 t175 x36_1).f7) a2 a0_2 t180 t181 true _ A18.out).mono ?_); rintro e w48 ⟨rfl, hb⟩; refine ⟨_, rfl, ?_⟩; have n0_ := Aside0.mk (Kd.R_below (by (with_reducible repeat (first | apply Kd.R_alloc | apply Kd.R_drewN | apply Kd.R_drew)); exact (Kd.R_mono (Kd.R_far (p := ⟨gb179, 7, none⟩) (Kd.R_far (p := ⟨gb179, 6, none⟩) (Kd.R_far (p := ⟨gb179, 5, none⟩) (Kd.R_far (p := ⟨gb179, 4, none⟩) (Kd.R_far (p := ⟨gb179, 3, none⟩) (Kd.R_far (p := ⟨gb179, 2, none⟩) (Kd.R_far (p := ⟨gb179, 1, none⟩) (Kd.R_far (p := ⟨gb179, 0, none⟩) (Kd.R_types HO_11.out BK179.out (by decide)) (fun _ hk => hk.2) (.int .i64 ((rd_T65 t175 x36_1).f0))) (fun _ hk => hk.2) (.int .i64 ((rd_T65 t175 x36_1).f1))) (fun _ hk => hk.2) (.int .i64 ((rd_T65 t175 x36_1).f2))) (fun _ hk => hk.2) (.int .i64 ((rd_T65 t175 x36_1).f3))) (fun _ hk => hk.2) (.int .i64 ((rd_T65 t175 x36_1).f4))) (fun _ hk => hk.2) (.int .i64 ((rd_T65 t175 x36_1).f5))) (fun _ hk => hk.2) (.int .i64 ((rd_T65 t175 x36_1).f6))) (fun _ hk => hk.2) (.int .i64 ((rd_T65 t175 x36_1).f7))) (fun _ h_ => h_.1))) hb); have n1_ := Aside0.mk (Kd.R_below (by (with_reducible repeat (first | apply Kd.R_alloc | apply Kd.R_drewN | apply Kd.R_drew)); exact (Kd.R_mono (Kd.R_far (p := ⟨gb179, 7, none⟩) (Kd.R_far (p := ⟨gb179, 6, none⟩) (Kd.R_far (p := ⟨gb179, 5, none⟩) (Kd.R_far (p := ⟨gb179, 4, none⟩) (Kd.R_far (p := ⟨gb179, 3, none⟩) (Kd.R_far (p := ⟨gb179, 2, none⟩) (Kd.R_far (p := ⟨gb179, 1, none⟩) (Kd.R_far (p := ⟨gb179, 0, none⟩) (Kd.R_mono HO_34.out (fun k_ hk => (⟨hk, hk.2⟩ : _ ∧ k_ ≠ gb179))) (fun _ hk => hk.2) (.int .i64 ((rd_T65 t175 x36_1).f0))) (fun _ hk => hk.2) (.int .i64 ((rd_T65 t175 x36_1).f1))) (fun _ hk => hk.2) (.int .i64 ((rd_T65 t175 x36_1).f2))) (fun _ hk => hk.2) (.int .i64 ((rd_T65 t175 x36_1).f3))) (fun _ hk => hk.2) (.int .i64 ((rd_T65 t175 x36_1).f4))) (fun _ hk => hk.2) (.int .i64 ((rd_T65 t175 x36_1).f5))) (fun _ hk => hk.2) (.int .i64 ((rd_T65 t175 x36_1).f6))) (fun _ hk => hk.2) (.int .i64 ((rd_T65 t175 x36_1).f7))) (fun _ h_ => h_.1))) hb); have n2_ := Aside0.mk (blk_below (g := gb170) (o := .cells #[.slice A0_0 l0_0.length c0_0, .int .i64 a0_1, .int .i64 a0_2, .int .i64 a0_3, .slice A0_4 l0_4.length c0_4] 58 (0, 0)) (by (with_reducible repeat (first | refine blk_drewN ?_ _ | refine blk_drew ?_ | refine blk_alloc ?_ _)); refine blk_far ?_ NB170_179.out _; (with_reducible repeat (first | refine blk_drewN ?_ _ | refine blk_drew ?_ | refine blk_alloc ?_ _)); refine blk_far ?_ NB170_179.out _; (with_reducible repeat (first | refine blk_drewN ?_ _ | refine blk_drew ?_ | refine blk_alloc ?_ _)); refine blk_far ?_ NB170_179.out _; (with_reducible repeat (first | refine blk_drewN ?_ _ | refine blk_drew ?_ | refine blk_alloc ?_ _)); refine blk_far ?_ NB170_179.out _; (with_reducible repeat (first | refine blk_drewN ?_ _ | refine blk_drew ?_ | refine blk_alloc ?_ _)); refine blk_far ?_ NB170_179.out _; (with_reducible repeat (first | refine blk_drewN ?_ _ | refine blk_drew ?_ | refine blk_alloc ?_ _)); refine blk_far ?_ NB170_179.out _; (with_reducible repeat (first | refine blk_drewN ?_ _ | refine blk_drew ?_ | refine blk_alloc ?_ _)); refine blk_far ?_ NB170_179.out _; (with_reducible repeat (first | refine blk_drewN ?_ _ | refine blk_drew ?_ | refine blk_alloc ?_ _)); refine blk_far ?_ NB170_179.out _; (with_reducible repeat (first | refine blk_drewN ?_ _ | refine blk_drew ?_ | refine blk_alloc ?_ _)); exact BK170.out) hb); have n3_ := Aside0.mk (blk_below (g := gb171) (o := .cells #[.int .i64 x172000_1, .int .i64 x172001_1, .int .i64 x172002_1] 56 (0, 0)) (by (with_reducible repeat (first | refine blk_drewN ?_ _ | refine blk_drew ?_ | refine blk_alloc ?_ _)); refine blk_far ?_ NB171_179.out _; (with_reducible repeat (first | refine blk_drewN ?_ _ | refine blk_drew ?_ | refine blk_alloc ?_ _)); refine blk_far ?_ NB171_179.out _; (with_reducible repeat (first | refine blk_drewN ?_ _ | refine blk_drew ?_ | refine blk_alloc ?_ _)); refine blk_far ?_ NB171_179.out _; (with_reducible repeat (first | refine blk_drewN ?_ _ | refine blk_drew ?_ | refine blk_alloc ?_ _)); refine blk_far ?_ NB171_179.out _; (with_reducible repeat (first | refine blk_drewN ?_ _ | refine blk_drew ?_ | refine blk_alloc ?_ _)); refine blk_far ?_ NB171_179.out _; (with_reducible repeat (first | refine blk_drewN ?_ _ | refine blk_drew ?_ | refine blk_alloc ?_ _)); refine blk_far ?_ NB171_179.out _; (with_reducible repeat (first | refine blk_drewN ?_ _ | refine blk_drew ?_ | refine blk_alloc ?_ _)); refine blk_far ?_ NB171_179.out _; (with_reducible repeat (first | refine blk_drewN ?_ _ | refine blk_drew ?_ | refine blk_alloc ?_ _)); refine blk_far ?_ NB171_179.out _; (with_reducible repeat (first | refine blk_drewN ?_ _ | refine blk_drew ?_ | refine blk_alloc ?_ _)); exact BK171.out) hb); have n4_ := Aside0.mk (blk_below (g := gb179) (o := .cells #[.int .i64 ((rd_T65 t175 x36_1).f0), .int .i64 ((rd_T65 t175 x36_1).f1), .int .i64 ((rd_T65 t175 x36_1).f2), .int .i64 ((rd_T65 t175 x36_1).f3), .int .i64 ((rd_T65 t175 x36_1).f4), .int .i64 ((rd_T65 t175 x36_1).f5), .int .i64 ((rd_T65 t175 x36_1).f6), .int .i64 ((rd_T65 t175 x36_1).f7)] 65 (0, 0)) (by (with_reducible repeat (first | refine blk_drewN ?_ _ | refine blk_drew ?_ | refine blk_alloc ?_ _)); refine blk_put (cs := #[.int .i64 ((rd_T65 t175 x36_1).f0), .int .i64 ((rd_T65 t175 x36_1).f1), .int .i64 ((rd_T65 t175 x36_1).f2), .int .i64 ((rd_T65 t175 x36_1).f3), .int .i64 ((rd_T65 t175 x36_1).f4), .int .i64 ((rd_T65 t175 x36_1).f5), .int .i64 ((rd_T65 t175 x36_1).f6), .int .i64 0]) ?_ 7 _ rfl; (with_reducible repeat (first | refine blk_drewN ?_ _ | refine blk_drew ?_ | refine blk_alloc ?_ _)); refine blk_put (cs := #[.int .i64 ((rd_T65 t175 x36_1).f0), .int .i64 ((rd_T65 t175 x36_1).f1), .int .i64 ((rd_T65 t175 x36_1).f2), .int .i64 ((rd_T65 t175 x36_1).f3), .int .i64 ((rd_T65 t175 x36_1).f4), .int .i64 ((rd_T65 t175 x36_1).f5), .int .i64 0, .int .i64 0]) ?_ 6 _ rfl; (with_reducible repeat (first | refine blk_drewN ?_ _ | refine blk_drew ?_ | refine blk_alloc ?_ _)); refine blk_put (cs := #[.int .i64 ((rd_T65 t175 x36_1).f0), .int .i64 ((rd_T65 t175 x36_1).f1), .int .i64 ((rd_T65 t175 x36_1).f2), .int .i64 ((rd_T65 t175 x36_1).f3), .int .i64 ((rd_T65 t175 x36_1).f4), .int .i64 0, .int .i64 0, .int .i64 0]) ?_ 5 _ rfl; (with_reducible repeat (first | refine blk_drewN ?_ _ | refine blk_drew ?_ | refine blk_alloc ?_ _)); refine blk_put (cs := #[.int .i64 ((rd_T65 t175 x36_1).f0), .int .i64 ((rd_T65 t175 x36_1).f1), .int .i64 ((rd_T65 t175 x36_1).f2), .int .i64 ((rd_T65 t175 x36_1).f3), .int .i64 0, .int .i64 0, .int .i64 0, .int .i64 0]) ?_ 4 _ rfl; (with_reducible repeat (first | refine blk_drewN ?_ _ | refine blk_drew ?_ | refine blk_alloc ?_ _)); refine blk_put (cs := #[.int .i64 ((rd_T65 t175 x36_1).f0), .int .i64 ((rd_T65 t175 x36_1).f1), .int .i64 ((rd_T65 t175 x36_1).f2), .int .i64 0, .int .i64 0, .int .i64 0, .int .i64 0, .int .i64 0]) ?_ 3 _ rfl; (with_reducible repeat (first | refine blk_drewN ?_ _ | refine blk_drew ?_ | refine blk_alloc ?_ _)); refine blk_put (cs := #[.int .i64 ((rd_T65 t175 x36_1).f0), .int .i64 ((rd_T65 t175 x36_1).f1), .int .i64 0, .int .i64 0, .int .i64 0, .int .i64 0, .int .i64 0, .int .i64 0]) ?_ 2 _ rfl; (with_reducible repeat (first | refine blk_drewN ?_ _ | refine blk_drew ?_ | refine blk_alloc ?_ _)); refine blk_put (cs := #[.int .i64 ((rd_T65 t175 x36_1).f0), .int .i64 0, .int .i64 0, .int .i64 0, .int .i64 0, .int .i64 0, .int .i64 0, .int .i64 0]) ?_ 1 _ rfl; (with_reducible repeat (first | refine blk_drewN ?_ _ | refine blk_drew ?_ | refine blk_alloc ?_ _)); refine blk_put (cs := #[.int .i64 0, .int .i64 0, .int .i64 0, .int .i64 0, .int .i64 0, .int .i64 0, .int .i64 0, .int .i64 0]) ?_ 0 _ rfl; (with_reducible repeat (first | refine blk_drewN ?_ _ | refine blk_drew ?_ | refine blk_alloc ?_ _)); exact BK179.out) hb); have n5_ := Aside0.mk (below_step (by repeat (first | (with_reducible first | exact HB.out | apply below_alloc | apply pw_below_drewN | apply below_drew1 | refine below_set ?_ GE170.out | refine below_set ?_ GE171.out | refine below_set ?_ GE179.out) | exact HB.out)) hb); clear HO_11; clear HO_34; clear BK170; clear BK171; clear BK179; clear HB; have HO_11 := n0_; have HO_34 := n1_; have BK170 := n2_; have BK171 := n3_; have BK179 := n4_; have HB := n5_; clear n0_ n1_ n2_ n3_ n4_ n5_; (try clear hb); (try clear hb2); (try clear hk); (try clear hi); have hcz49_0 : w48.cell? ⟨gb179, 0, none⟩ = some (.int .i64 ((rd_T65 t175 x36_1).f0)) := (blk_cell BK179.out 0).trans rfl; have hcz49_1 : w48.cell? ⟨gb179, 1, none⟩ = some (.int .i64 ((rd_T65 t175 x36_1).f1)) := (blk_cell BK179.out 1).trans rfl; have hcz49_2 : w48.cell? ⟨gb179, 2, none⟩ = some (.int .i64 ((rd_T65 t175 x36_1).f2)) := (blk_cell BK179.out 2).trans rfl; have hcz49_3 : w48.cell? ⟨gb179, 3, none⟩ = some (.int .i64 ((rd_T65 t175 x36_1).f3)) := (blk_cell BK179.out 3).trans rfl; have hcz49_4 : w48.cell? ⟨gb179, 4, none⟩ = some (.int .i64 ((rd_T65 t175 x36_1).f4)) := (blk_cell BK179.out 4).trans rfl; have hcz49_5 : w48.cell? ⟨gb179, 5, none⟩ = some (.int .i64 ((rd_T65 t175 x36_1).f5)) := (blk_cell BK179.out 5).trans rfl; have hcz49_6 : w48.cell? ⟨gb179, 6, none⟩ = some (.int .i64 ((rd_T65 t175 x36_1).f6)) := (blk_cell BK179.out 6).trans rfl; have hcz49_7 : w48.cell? ⟨gb179, 7, none⟩ = some (.int .i64 ((rd_T65 t175 x36_1).f7)) := (blk_cell BK179.out 7).trans rfl; have hfz49_0 := blk_frozen BK179.out 0; have hfz49_1 := blk_frozen BK179.out 1; have hfz49_2 := blk_frozen BK179.out 2; have hfz49_3 := blk_frozen BK179.out 3; have hfz49_4 := blk_frozen BK179.out 4; have hfz49_5 := blk_frozen BK179.out 5; have hfz49_6 := blk_frozen BK179.out 6; have hfz49_7 := blk_frozen BK179.out 7; obtain ⟨Ao50, co50, eo50⟩ := Kd.R_slice HO_11.out; subst eo50) | ((with_reducible refine gate_callee (f := 20) rfl ?_); refine goesL_ (some 53) rfl rfl Try.func20 (by kernel_rfl) rfl #[.slice Ao50 t172.length co50, .int .i64 ((rd_T65 t175 x36_1).f2)] rfl (by (try simp only [List.map_toArray, List.map_cons, List.map_nil]); first | done | rfl | (simp only [List.length_drop, List.length_take]; rfl)) ?_; (with_reducible refine (early_At.calls k1 _ _ t172 ((rd_T65 t175 x36_1).f2) t183 true _ ?side1 ?side2 A19.out).mono ?_); (case side1 => repeat (first | exact (Kd.R_reads' HO_11.out).2.2 | (with_reducible refine Kd.C_alloc ?_ _) | (with_reducible refine Kd.C_drewN ?_ _) | (with_reducible refine Kd.C_drew ?_))); (case side2 => exact (Kd.R_reads' HO_11.out).2.1); rintro e w51 ⟨rfl, hb⟩; refine ⟨_, rfl, ?_⟩; have n0_ := Aside0.mk (Kd.R_below (by (with_reducible repeat (first | apply Kd.R_alloc | apply Kd.R_drewN | apply Kd.R_drew)); exact HO_11.out) hb); have n1_ := Aside0.mk (Kd.R_below (by (with_reducible repeat (first | apply Kd.R_alloc | apply Kd.R_drewN | apply Kd.R_drew)); exact HO_34.out) hb); have n2_ := Aside0.mk (blk_below (g := gb170) (o := .cells #[.slice A0_0 l0_0.length c0_0, .int .i64 a0_1, .int .i64 a0_2, .int .i64 a0_3, .slice A0_4 l0_4.length c0_4] 58 (0, 0)) (by (with_reducible repeat (first | refine blk_drewN ?_ _ | refine blk_drew ?_ | refine blk_alloc ?_ _)); exact BK170.out) hb); have n3_ := Aside0.mk (blk_below (g := gb171) (o := .cells #[.int .i64 x172000_1, .int .i64 x172001_1, .int .i64 x172002_1] 56 (0, 0)) (by (with_reducible repeat (first | refine blk_drewN ?_ _ | refine blk_drew ?_ | refine blk_alloc ?_ _)); exact BK171.out) hb); have n4_ := Aside0.mk (blk_below (g := gb179) (o := .cells #[.int .i64 ((rd_T65 t175 x36_1).f0), .int .i64 ((rd_T65 t175 x36_1).f1), .int .i64 ((rd_T65 t175 x36_1).f2), .int .i64 ((rd_T65 t175 x36_1).f3), .int .i64 ((rd_T65 t175 x36_1).f4), .int .i64 ((rd_T65 t175 x36_1).f5), .int .i64 ((rd_T65 t175 x36_1).f6), .int .i64 ((rd_T65 t175 x36_1).f7)] 65 (0, 0)) (by (with_reducible repeat (first | refine blk_drewN ?_ _ | refine blk_drew ?_ | refine blk_alloc ?_ _)); exact BK179.out) hb); have n5_ := Aside0.mk (below_step (by repeat (first | (with_reducible first | exact HB.out | apply below_alloc | apply pw_below_drewN | apply below_drew1 | refine below_set ?_ GE170.out | refine below_set ?_ GE171.out | refine below_set ?_ GE179.out) | exact HB.out)) hb); clear HO_11; clear HO_34; clear BK170; clear BK171; clear BK179; clear HB; have HO_11 := n0_; have HO_34 := n1_; have BK170 := n2_; have BK171 := n3_; have BK179 := n4_; have HB := n5_; clear n0_ n1_ n2_ n3_ n4_ n5_; (try clear hb); (try clear hb2); (try clear hk); (try clear hi); have hcz52_0 : w51.cell? ⟨gb179, 0, none⟩ = some (.int .i64 ((rd_T65 t175 x36_1).f0)) := (blk_cell BK179.out 0).trans rfl; have hcz52_1 : w51.cell? ⟨gb179, 1, none⟩ = some (.int .i64 ((rd_T65 t175 x36_1).f1)) := (blk_cell BK179.out 1).trans rfl; have hcz52_2 : w51.cell? ⟨gb179, 2, none⟩ = some (.int .i64 ((rd_T65 t175 x36_1).f2)) := (blk_cell BK179.out 2).trans rfl; have hcz52_3 : w51.cell? ⟨gb179, 3, none⟩ = some (.int .i64 ((rd_T65 t175 x36_1).f3)) := (blk_cell BK179.out 3).trans rfl; have hcz52_4 : w51.cell? ⟨gb179, 4, none⟩ = some (.int .i64 ((rd_T65 t175 x36_1).f4)) := (blk_cell BK179.out 4).trans rfl; have hcz52_5 : w51.cell? ⟨gb179, 5, none⟩ = some (.int .i64 ((rd_T65 t175 x36_1).f5)) := (blk_cell BK179.out 5).trans rfl; have hcz52_6 : w51.cell? ⟨gb179, 6, none⟩ = some (.int .i64 ((rd_T65 t175 x36_1).f6)) := (blk_cell BK179.out 6).trans rfl; have hcz52_7 : w51.cell? ⟨gb179, 7, none⟩ = some (.int .i64 ((rd_T65 t175 x36_1).f7)) := (blk_cell BK179.out 7).trans rfl; have hfz52_0 := blk_frozen BK179.out 0; have hfz52_1 := blk_frozen BK179.out 1; have hfz52_2 := blk_frozen BK179.out 2; have hfz52_3 := blk_frozen BK179.out 3; have hfz52_4 := blk_frozen BK179.out 4; have hfz52_5 := blk_frozen BK179.out 5; have hfz52_6 := blk_frozen BK179.out 6; have hfz52_7 := blk_frozen BK179.out 7; have hcz53_0 : w51.cell? ⟨gb170, 0, none⟩ = some (.slice A0_0 l0_0.length c0_0) := (blk_cell BK170.out 0).trans rfl; have hcz53_1 : w51.cell? ⟨gb170, 1, none⟩ = some (.int .i64 a0_1) := (blk_cell BK170.out 1).trans rfl; have hcz53_2 : w51.cell? ⟨gb170, 2, none⟩ = some (.int .i64 a0_2) := (blk_cell BK170.out 2).trans rfl; have hcz53_3 : w51.cell? ⟨gb170, 3, none⟩ = some (.int .i64 a0_3) := (blk_cell BK170.out 3).trans rfl; have hcz53_4 : w51.cell? ⟨gb170, 4, none⟩ = some (.slice A0_4 l0_4.length c0_4) := (blk_cell BK170.out 4).trans rfl; have hfz53_0 := blk_frozen BK170.out 0; have hfz53_1 := blk_frozen BK170.out 1; have hfz53_2 := blk_frozen BK170.out 2; have hfz53_3 := blk_frozen BK170.out 3; have hfz53_4 := blk_frozen BK170.out 4) | (go_at_call 56; (with_reducible refine (slices_Contains_int_int.calls k1 _ _ l0_4 ((rd_T65 t175 x36_1).f2) true _ ?side1 ?side2 A40.out).mono ?_); (case side1 => repeat (first | exact (Kd.C_below HR0_4.out HB.out) | (with_reducible refine Kd.C_alloc ?_ _) | (with_reducible refine Kd.C_drewN ?_ _) | (with_reducible refine Kd.C_drew ?_))); (case side2 => exact HC0_4.out); rintro e w' ⟨rfl, ⟨nd, rfl⟩⟩))
                      go_roundg k1
                      case measure => have := HK1.out; omega
                      case rel => exact ⟨(wrap64 (x36_1 + 1)), (x172000_1), (x172001_1), (x172002_1), (by first | rfl | (simp; done) | (simp [*]; done)), H', ⟨by have := HK1.out; omega⟩, ⟨by (with_reducible repeat (first | apply Kd.R_alloc | apply Kd.R_drewN | apply Kd.R_drew)); exact HO_11.out⟩, ⟨by (with_reducible repeat (first | apply Kd.R_alloc | apply Kd.R_drewN | apply Kd.R_drew)); exact Kd.R_mono HO_34.out (fun _ hk => trivial)⟩, ⟨by (with_reducible repeat (first | refine blk_drewN ?_ _ | refine blk_drew ?_ | refine blk_alloc ?_ _)); exact BK170.out⟩, ⟨by (with_reducible repeat (first | refine blk_drewN ?_ _ | refine blk_drew ?_ | refine blk_alloc ?_ _)); exact BK171.out⟩, ⟨by repeat (first | (with_reducible first | exact HB.out | apply below_alloc | apply pw_below_drewN | apply below_drew1 | refine below_set ?_ GE170.out | refine below_set ?_ GE171.out | refine below_set ?_ GE179.out) | exact HB.out)⟩⟩
                    · replace c41 := Bool.eq_false_iff.mpr c41
                      subst c41
                      have H1 : (some ((rd_T65 t175 x36_1).f0, t180, t181, (rd_T65 t175 x36_1).f2, true)) = some (r1, r2, r3, r4, r5) := by rw [if_neg (show ¬ (false = true) by decide)] at H; exact H
                      clear H
                      have H := H1
                      clear H1
                      simp only [Option.some.injEq, Prod.mk.injEq] at H
                      obtain ⟨rfl, rfl, rfl, rfl, rfl⟩ := H
                      have p178 : 0 ≤ (x36_1 : Int) := of_decide_eq_true (by first | (with_reducible assumption) | assumption)
                      have q178 : x36_1 < (t175.length : Int) := of_decide_eq_true (by first | (with_reducible assumption) | assumption)
                      obtain ⟨ad178, e178, hx178_0, hx178_1, hx178_2, hx178_3, hx178_4, hx178_5, hx178_6, hx178_7⟩ := at_T65 (Kd.R_reads' HO_34.out).2.2 x36_1 p178 q178
                      cases e178
                      replace p178 := eq_true p178
                      replace q178 := eq_true q178
                      try go_wp2_with (first | ((with_reducible refine gate_dst (N := 13) rfl ?_); refine box_event ?hg (N := 13) ?hd (cs := #[.int .i64 0, .int .i64 0, .int .i64 0, .int .i64 0, .int .i64 0, .int .i64 0, .int .i64 0, .int .i64 0]) (t := 65) ?hr ?_; (case hd => rfl); (case hg => rfl); (case hr => first | (go_simp; done) | (go_simp; rfl)); intro gb179 hg w54 hbox hb; have n0_ := Aside0.mk (Kd.R_below (by (with_reducible repeat (first | apply Kd.R_alloc | apply Kd.R_drewN | apply Kd.R_drew)); exact HO_11.out) hb); have n1_ := Aside0.mk (Kd.R_below (Kd.R_elderB (by (with_reducible repeat (first | apply Kd.R_alloc | apply Kd.R_drewN | apply Kd.R_drew)); exact HO_34.out) gb179 (Nat.le_of_eq hg.symm)) hb); have n2_ := Aside0.mk (blk_below (g := gb170) (o := .cells #[.slice A0_0 l0_0.length c0_0, .int .i64 a0_1, .int .i64 a0_2, .int .i64 a0_3, .slice A0_4 l0_4.length c0_4] 58 (0, 0)) (by (with_reducible repeat (first | refine blk_drewN ?_ _ | refine blk_drew ?_ | refine blk_alloc ?_ _)); exact BK170.out) hb); have n3_ := Aside0.mk (blk_below (g := gb171) (o := .cells #[.int .i64 x172000_1, .int .i64 x172001_1, .int .i64 x172002_1] 56 (0, 0)) (by (with_reducible repeat (first | refine blk_drewN ?_ _ | refine blk_drew ?_ | refine blk_alloc ?_ _)); exact BK171.out) hb); have n4_ := Aside0.mk (below_step (by repeat (first | (with_reducible first | exact HB.out | apply below_alloc | apply pw_below_drewN | apply below_drew1 | refine below_set ?_ GE170.out | refine below_set ?_ GE171.out) | exact HB.out)) hb); have n5_ := Aside0.mk (hbox); have n6_ := Aside0.mk ((by rw [hg]; exact (below_size (by repeat (first | (with_reducible first | exact HB.out | apply below_alloc | apply pw_below_drewN | apply below_drew1 | refine below_set ?_ GE170.out | refine below_set ?_ GE171.out) | exact HB.out))) : w.heap.size ≤ gb179)); have n7_ := Aside0.mk ((by rw [hg]; exact (below_size (by repeat (first | (with_reducible first | exact HB.out | apply below_alloc | apply pw_below_drewN | apply below_drew1 | refine below_set ?_ GE170.out | refine below_set ?_ GE171.out) | exact HB.out))) : w.heap.size ≤ gb179)); have n8_ := Aside0.mk ((by rw [hg]; exact Nat.ne_of_lt (blk_lt (g := gb170) (o := .cells #[.slice A0_0 l0_0.length c0_0, .int .i64 a0_1, .int .i64 a0_2, .int .i64 a0_3, .slice A0_4 l0_4.length c0_4] 58 (0, 0)) (by (with_reducible repeat (first | refine blk_drewN ?_ _ | refine blk_drew ?_ | refine blk_alloc ?_ _)); exact BK170.out)) : gb170 ≠ gb179)); have n9_ := Aside0.mk ((by rw [hg]; exact Nat.ne_of_gt (blk_lt (g := gb170) (o := .cells #[.slice A0_0 l0_0.length c0_0, .int .i64 a0_1, .int .i64 a0_2, .int .i64 a0_3, .slice A0_4 l0_4.length c0_4] 58 (0, 0)) (by (with_reducible repeat (first | refine blk_drewN ?_ _ | refine blk_drew ?_ | refine blk_alloc ?_ _)); exact BK170.out)) : gb179 ≠ gb170)); have n10_ := Aside0.mk ((by rw [hg]; exact Nat.ne_of_lt (blk_lt (g := gb171) (o := .cells #[.int .i64 x172000_1, .int .i64 x172001_1, .int .i64 x172002_1] 56 (0, 0)) (by (with_reducible repeat (first | refine blk_drewN ?_ _ | refine blk_drew ?_ | refine blk_alloc ?_ _)); exact BK171.out)) : gb171 ≠ gb179)); have n11_ := Aside0.mk ((by rw [hg]; exact Nat.ne_of_gt (blk_lt (g := gb171) (o := .cells #[.int .i64 x172000_1, .int .i64 x172001_1, .int .i64 x172002_1] 56 (0, 0)) (by (with_reducible repeat (first | refine blk_drewN ?_ _ | refine blk_drew ?_ | refine blk_alloc ?_ _)); exact BK171.out)) : gb179 ≠ gb171)); clear HO_11; clear HO_34; clear BK170; clear BK171; clear HB; have HO_11 := n0_; have HO_34 := n1_; have BK170 := n2_; have BK171 := n3_; have HB := n4_; have BK179 := n5_; have GW179 := n6_; have GE179 := n7_; have NB170_179 := n8_; have NB179_170 := n9_; have NB171_179 := n10_; have NB179_171 := n11_; clear n0_ n1_ n2_ n3_ n4_ n5_ n6_ n7_ n8_ n9_ n10_ n11_; clear hb hbox hg; have hnb55 := NB179_170.out; have hnc55 := NB170_179.out; have hnb56 := NB179_171.out; have hnc56 := NB171_179.out; have hcz57_0 : w54.cell? ⟨gb179, 0, none⟩ = some (.int .i64 0) := (blk_cell BK179.out 0).trans rfl; have hcz57_1 : w54.cell? ⟨gb179, 1, none⟩ = some (.int .i64 0) := (blk_cell BK179.out 1).trans rfl; have hcz57_2 : w54.cell? ⟨gb179, 2, none⟩ = some (.int .i64 0) := (blk_cell BK179.out 2).trans rfl; have hcz57_3 : w54.cell? ⟨gb179, 3, none⟩ = some (.int .i64 0) := (blk_cell BK179.out 3).trans rfl; have hcz57_4 : w54.cell? ⟨gb179, 4, none⟩ = some (.int .i64 0) := (blk_cell BK179.out 4).trans rfl; have hcz57_5 : w54.cell? ⟨gb179, 5, none⟩ = some (.int .i64 0) := (blk_cell BK179.out 5).trans rfl; have hcz57_6 : w54.cell? ⟨gb179, 6, none⟩ = some (.int .i64 0) := (blk_cell BK179.out 6).trans rfl; have hcz57_7 : w54.cell? ⟨gb179, 7, none⟩ = some (.int .i64 0) := (blk_cell BK179.out 7).trans rfl; have hfz57_0 := blk_frozen BK179.out 0; have hfz57_1 := blk_frozen BK179.out 1; have hfz57_2 := blk_frozen BK179.out 2; have hfz57_3 := blk_frozen BK179.out 3; have hfz57_4 := blk_frozen BK179.out 4; have hfz57_5 := blk_frozen BK179.out 5; have hfz57_6 := blk_frozen BK179.out 6; have hfz57_7 := blk_frozen BK179.out 7; have hnb58 := NB170_171.out; have hnc58 := NB171_170.out; have hcz59_0 : w54.cell? ⟨gb170, 0, none⟩ = some (.slice A0_0 l0_0.length c0_0) := (blk_cell BK170.out 0).trans rfl; have hcz59_1 : w54.cell? ⟨gb170, 1, none⟩ = some (.int .i64 a0_1) := (blk_cell BK170.out 1).trans rfl; have hcz59_2 : w54.cell? ⟨gb170, 2, none⟩ = some (.int .i64 a0_2) := (blk_cell BK170.out 2).trans rfl; have hcz59_3 : w54.cell? ⟨gb170, 3, none⟩ = some (.int .i64 a0_3) := (blk_cell BK170.out 3).trans rfl; have hcz59_4 : w54.cell? ⟨gb170, 4, none⟩ = some (.slice A0_4 l0_4.length c0_4) := (blk_cell BK170.out 4).trans rfl; have hfz59_0 := blk_frozen BK170.out 0; have hfz59_1 := blk_frozen BK170.out 1; have hfz59_2 := blk_frozen BK170.out 2; have hfz59_3 := blk_frozen BK170.out 3; have hfz59_4 := blk_frozen BK170.out 4) | ((with_reducible refine gate_callee (f := 46) rfl ?_); refine goesL_ (some 45) rfl rfl Try.func46 (by kernel_rfl) rfl #[.agg #[.int .i64 ((rd_T65 t175 x36_1).f0), .int .i64 ((rd_T65 t175 x36_1).f1), .int .i64 ((rd_T65 t175 x36_1).f2), .int .i64 ((rd_T65 t175 x36_1).f3), .int .i64 ((rd_T65 t175 x36_1).f4), .int .i64 ((rd_T65 t175 x36_1).f5), .int .i64 ((rd_T65 t175 x36_1).f6), .int .i64 ((rd_T65 t175 x36_1).f7)], .int .i64 a2, .int .i64 a0_2] rfl (by (try simp only [List.map_toArray, List.map_cons, List.map_nil]); first | done | rfl | (simp only [List.length_drop, List.length_take]; rfl)) ?_; (with_reducible refine (hop_Pass.calls k1 ((rd_T65 t175 x36_1).f0) ((rd_T65 t175 x36_1).f1) ((rd_T65 t175 x36_1).f2) ((rd_T65 t175 x36_1).f3) ((rd_T65 t175 x36_1).f4) ((rd_T65 t175 x36_1).f5) ((rd_T65 t175 x36_1).f6) ((rd_T65 t175 x36_1).f7) a2 a0_2 t180 t181 true _ A18.out).mono ?_); rintro e w60 ⟨rfl, hb⟩; refine ⟨_, rfl, ?_⟩; have n0_ := Aside0.mk (Kd.R_below (by (with_reducible repeat (first | apply Kd.R_alloc | apply Kd.R_drewN | apply Kd.R_drew)); exact (Kd.R_mono (Kd.R_far (p := ⟨gb179, 7, none⟩) (Kd.R_far (p := ⟨gb179, 6, none⟩) (Kd.R_far (p := ⟨gb179, 5, none⟩) (Kd.R_far (p := ⟨gb179, 4, none⟩) (Kd.R_far (p := ⟨gb179, 3, none⟩) (Kd.R_far (p := ⟨gb179, 2, none⟩) (Kd.R_far (p := ⟨gb179, 1, none⟩) (Kd.R_far (p := ⟨gb179, 0, none⟩) (Kd.R_types HO_11.out BK179.out (by decide)) (fun _ hk => hk.2) (.int .i64 ((rd_T65 t175 x36_1).f0))) (fun _ hk => hk.2) (.int .i64 ((rd_T65 t175 x36_1).f1))) (fun _ hk => hk.2) (.int .i64 ((rd_T65 t175 x36_1).f2))) (fun _ hk => hk.2) (.int .i64 ((rd_T65 t175 x36_1).f3))) (fun _ hk => hk.2) (.int .i64 ((rd_T65 t175 x36_1).f4))) (fun _ hk => hk.2) (.int .i64 ((rd_T65 t175 x36_1).f5))) (fun _ hk => hk.2) (.int .i64 ((rd_T65 t175 x36_1).f6))) (fun _ hk => hk.2) (.int .i64 ((rd_T65 t175 x36_1).f7))) (fun _ h_ => h_.1))) hb); have n1_ := Aside0.mk (Kd.R_below (by (with_reducible repeat (first | apply Kd.R_alloc | apply Kd.R_drewN | apply Kd.R_drew)); exact (Kd.R_mono (Kd.R_far (p := ⟨gb179, 7, none⟩) (Kd.R_far (p := ⟨gb179, 6, none⟩) (Kd.R_far (p := ⟨gb179, 5, none⟩) (Kd.R_far (p := ⟨gb179, 4, none⟩) (Kd.R_far (p := ⟨gb179, 3, none⟩) (Kd.R_far (p := ⟨gb179, 2, none⟩) (Kd.R_far (p := ⟨gb179, 1, none⟩) (Kd.R_far (p := ⟨gb179, 0, none⟩) (Kd.R_mono HO_34.out (fun k_ hk => (⟨hk, hk.2⟩ : _ ∧ k_ ≠ gb179))) (fun _ hk => hk.2) (.int .i64 ((rd_T65 t175 x36_1).f0))) (fun _ hk => hk.2) (.int .i64 ((rd_T65 t175 x36_1).f1))) (fun _ hk => hk.2) (.int .i64 ((rd_T65 t175 x36_1).f2))) (fun _ hk => hk.2) (.int .i64 ((rd_T65 t175 x36_1).f3))) (fun _ hk => hk.2) (.int .i64 ((rd_T65 t175 x36_1).f4))) (fun _ hk => hk.2) (.int .i64 ((rd_T65 t175 x36_1).f5))) (fun _ hk => hk.2) (.int .i64 ((rd_T65 t175 x36_1).f6))) (fun _ hk => hk.2) (.int .i64 ((rd_T65 t175 x36_1).f7))) (fun _ h_ => h_.1))) hb); have n2_ := Aside0.mk (blk_below (g := gb170) (o := .cells #[.slice A0_0 l0_0.length c0_0, .int .i64 a0_1, .int .i64 a0_2, .int .i64 a0_3, .slice A0_4 l0_4.length c0_4] 58 (0, 0)) (by (with_reducible repeat (first | refine blk_drewN ?_ _ | refine blk_drew ?_ | refine blk_alloc ?_ _)); refine blk_far ?_ NB170_179.out _; (with_reducible repeat (first | refine blk_drewN ?_ _ | refine blk_drew ?_ | refine blk_alloc ?_ _)); refine blk_far ?_ NB170_179.out _; (with_reducible repeat (first | refine blk_drewN ?_ _ | refine blk_drew ?_ | refine blk_alloc ?_ _)); refine blk_far ?_ NB170_179.out _; (with_reducible repeat (first | refine blk_drewN ?_ _ | refine blk_drew ?_ | refine blk_alloc ?_ _)); refine blk_far ?_ NB170_179.out _; (with_reducible repeat (first | refine blk_drewN ?_ _ | refine blk_drew ?_ | refine blk_alloc ?_ _)); refine blk_far ?_ NB170_179.out _; (with_reducible repeat (first | refine blk_drewN ?_ _ | refine blk_drew ?_ | refine blk_alloc ?_ _)); refine blk_far ?_ NB170_179.out _; (with_reducible repeat (first | refine blk_drewN ?_ _ | refine blk_drew ?_ | refine blk_alloc ?_ _)); refine blk_far ?_ NB170_179.out _; (with_reducible repeat (first | refine blk_drewN ?_ _ | refine blk_drew ?_ | refine blk_alloc ?_ _)); refine blk_far ?_ NB170_179.out _; (with_reducible repeat (first | refine blk_drewN ?_ _ | refine blk_drew ?_ | refine blk_alloc ?_ _)); exact BK170.out) hb); have n3_ := Aside0.mk (blk_below (g := gb171) (o := .cells #[.int .i64 x172000_1, .int .i64 x172001_1, .int .i64 x172002_1] 56 (0, 0)) (by (with_reducible repeat (first | refine blk_drewN ?_ _ | refine blk_drew ?_ | refine blk_alloc ?_ _)); refine blk_far ?_ NB171_179.out _; (with_reducible repeat (first | refine blk_drewN ?_ _ | refine blk_drew ?_ | refine blk_alloc ?_ _)); refine blk_far ?_ NB171_179.out _; (with_reducible repeat (first | refine blk_drewN ?_ _ | refine blk_drew ?_ | refine blk_alloc ?_ _)); refine blk_far ?_ NB171_179.out _; (with_reducible repeat (first | refine blk_drewN ?_ _ | refine blk_drew ?_ | refine blk_alloc ?_ _)); refine blk_far ?_ NB171_179.out _; (with_reducible repeat (first | refine blk_drewN ?_ _ | refine blk_drew ?_ | refine blk_alloc ?_ _)); refine blk_far ?_ NB171_179.out _; (with_reducible repeat (first | refine blk_drewN ?_ _ | refine blk_drew ?_ | refine blk_alloc ?_ _)); refine blk_far ?_ NB171_179.out _; (with_reducible repeat (first | refine blk_drewN ?_ _ | refine blk_drew ?_ | refine blk_alloc ?_ _)); refine blk_far ?_ NB171_179.out _; (with_reducible repeat (first | refine blk_drewN ?_ _ | refine blk_drew ?_ | refine blk_alloc ?_ _)); refine blk_far ?_ NB171_179.out _; (with_reducible repeat (first | refine blk_drewN ?_ _ | refine blk_drew ?_ | refine blk_alloc ?_ _)); exact BK171.out) hb); have n4_ := Aside0.mk (blk_below (g := gb179) (o := .cells #[.int .i64 ((rd_T65 t175 x36_1).f0), .int .i64 ((rd_T65 t175 x36_1).f1), .int .i64 ((rd_T65 t175 x36_1).f2), .int .i64 ((rd_T65 t175 x36_1).f3), .int .i64 ((rd_T65 t175 x36_1).f4), .int .i64 ((rd_T65 t175 x36_1).f5), .int .i64 ((rd_T65 t175 x36_1).f6), .int .i64 ((rd_T65 t175 x36_1).f7)] 65 (0, 0)) (by (with_reducible repeat (first | refine blk_drewN ?_ _ | refine blk_drew ?_ | refine blk_alloc ?_ _)); refine blk_put (cs := #[.int .i64 ((rd_T65 t175 x36_1).f0), .int .i64 ((rd_T65 t175 x36_1).f1), .int .i64 ((rd_T65 t175 x36_1).f2), .int .i64 ((rd_T65 t175 x36_1).f3), .int .i64 ((rd_T65 t175 x36_1).f4), .int .i64 ((rd_T65 t175 x36_1).f5), .int .i64 ((rd_T65 t175 x36_1).f6), .int .i64 0]) ?_ 7 _ rfl; (with_reducible repeat (first | refine blk_drewN ?_ _ | refine blk_drew ?_ | refine blk_alloc ?_ _)); refine blk_put (cs := #[.int .i64 ((rd_T65 t175 x36_1).f0), .int .i64 ((rd_T65 t175 x36_1).f1), .int .i64 ((rd_T65 t175 x36_1).f2), .int .i64 ((rd_T65 t175 x36_1).f3), .int .i64 ((rd_T65 t175 x36_1).f4), .int .i64 ((rd_T65 t175 x36_1).f5), .int .i64 0, .int .i64 0]) ?_ 6 _ rfl; (with_reducible repeat (first | refine blk_drewN ?_ _ | refine blk_drew ?_ | refine blk_alloc ?_ _)); refine blk_put (cs := #[.int .i64 ((rd_T65 t175 x36_1).f0), .int .i64 ((rd_T65 t175 x36_1).f1), .int .i64 ((rd_T65 t175 x36_1).f2), .int .i64 ((rd_T65 t175 x36_1).f3), .int .i64 ((rd_T65 t175 x36_1).f4), .int .i64 0, .int .i64 0, .int .i64 0]) ?_ 5 _ rfl; (with_reducible repeat (first | refine blk_drewN ?_ _ | refine blk_drew ?_ | refine blk_alloc ?_ _)); refine blk_put (cs := #[.int .i64 ((rd_T65 t175 x36_1).f0), .int .i64 ((rd_T65 t175 x36_1).f1), .int .i64 ((rd_T65 t175 x36_1).f2), .int .i64 ((rd_T65 t175 x36_1).f3), .int .i64 0, .int .i64 0, .int .i64 0, .int .i64 0]) ?_ 4 _ rfl; (with_reducible repeat (first | refine blk_drewN ?_ _ | refine blk_drew ?_ | refine blk_alloc ?_ _)); refine blk_put (cs := #[.int .i64 ((rd_T65 t175 x36_1).f0), .int .i64 ((rd_T65 t175 x36_1).f1), .int .i64 ((rd_T65 t175 x36_1).f2), .int .i64 0, .int .i64 0, .int .i64 0, .int .i64 0, .int .i64 0]) ?_ 3 _ rfl; (with_reducible repeat (first | refine blk_drewN ?_ _ | refine blk_drew ?_ | refine blk_alloc ?_ _)); refine blk_put (cs := #[.int .i64 ((rd_T65 t175 x36_1).f0), .int .i64 ((rd_T65 t175 x36_1).f1), .int .i64 0, .int .i64 0, .int .i64 0, .int .i64 0, .int .i64 0, .int .i64 0]) ?_ 2 _ rfl; (with_reducible repeat (first | refine blk_drewN ?_ _ | refine blk_drew ?_ | refine blk_alloc ?_ _)); refine blk_put (cs := #[.int .i64 ((rd_T65 t175 x36_1).f0), .int .i64 0, .int .i64 0, .int .i64 0, .int .i64 0, .int .i64 0, .int .i64 0, .int .i64 0]) ?_ 1 _ rfl; (with_reducible repeat (first | refine blk_drewN ?_ _ | refine blk_drew ?_ | refine blk_alloc ?_ _)); refine blk_put (cs := #[.int .i64 0, .int .i64 0, .int .i64 0, .int .i64 0, .int .i64 0, .int .i64 0, .int .i64 0, .int .i64 0]) ?_ 0 _ rfl; (with_reducible repeat (first | refine blk_drewN ?_ _ | refine blk_drew ?_ | refine blk_alloc ?_ _)); exact BK179.out) hb); have n5_ := Aside0.mk (below_step (by repeat (first | (with_reducible first | exact HB.out | apply below_alloc | apply pw_below_drewN | apply below_drew1 | refine below_set ?_ GE170.out | refine below_set ?_ GE171.out | refine below_set ?_ GE179.out) | exact HB.out)) hb); clear HO_11; clear HO_34; clear BK170; clear BK171; clear BK179; clear HB; have HO_11 := n0_; have HO_34 := n1_; have BK170 := n2_; have BK171 := n3_; have BK179 := n4_; have HB := n5_; clear n0_ n1_ n2_ n3_ n4_ n5_; (try clear hb); (try clear hb2); (try clear hk); (try clear hi); have hcz61_0 : w60.cell? ⟨gb179, 0, none⟩ = some (.int .i64 ((rd_T65 t175 x36_1).f0)) := (blk_cell BK179.out 0).trans rfl; have hcz61_1 : w60.cell? ⟨gb179, 1, none⟩ = some (.int .i64 ((rd_T65 t175 x36_1).f1)) := (blk_cell BK179.out 1).trans rfl; have hcz61_2 : w60.cell? ⟨gb179, 2, none⟩ = some (.int .i64 ((rd_T65 t175 x36_1).f2)) := (blk_cell BK179.out 2).trans rfl; have hcz61_3 : w60.cell? ⟨gb179, 3, none⟩ = some (.int .i64 ((rd_T65 t175 x36_1).f3)) := (blk_cell BK179.out 3).trans rfl; have hcz61_4 : w60.cell? ⟨gb179, 4, none⟩ = some (.int .i64 ((rd_T65 t175 x36_1).f4)) := (blk_cell BK179.out 4).trans rfl; have hcz61_5 : w60.cell? ⟨gb179, 5, none⟩ = some (.int .i64 ((rd_T65 t175 x36_1).f5)) := (blk_cell BK179.out 5).trans rfl; have hcz61_6 : w60.cell? ⟨gb179, 6, none⟩ = some (.int .i64 ((rd_T65 t175 x36_1).f6)) := (blk_cell BK179.out 6).trans rfl; have hcz61_7 : w60.cell? ⟨gb179, 7, none⟩ = some (.int .i64 ((rd_T65 t175 x36_1).f7)) := (blk_cell BK179.out 7).trans rfl; have hfz61_0 := blk_frozen BK179.out 0; have hfz61_1 := blk_frozen BK179.out 1; have hfz61_2 := blk_frozen BK179.out 2; have hfz61_3 := blk_frozen BK179.out 3; have hfz61_4 := blk_frozen BK179.out 4; have hfz61_5 := blk_frozen BK179.out 5; have hfz61_6 := blk_frozen BK179.out 6; have hfz61_7 := blk_frozen BK179.out 7; obtain ⟨Ao62, co62, eo62⟩ := Kd.R_slice HO_11.out; subst eo62) | ((with_reducible refine gate_callee (f := 20) rfl ?_); refine goesL_ (some 53) rfl rfl Try.func20 (by kernel_rfl) rfl #[.slice Ao62 t172.length co62, .int .i64 ((rd_T65 t175 x36_1).f2)] rfl (by (try simp only [List.map_toArray, List.map_cons, List.map_nil]); first | done | rfl | (simp only [List.length_drop, List.length_take]; rfl)) ?_; (with_reducible refine (early_At.calls k1 _ _ t172 ((rd_T65 t175 x36_1).f2) t183 true _ ?side1 ?side2 A19.out).mono ?_); (case side1 => repeat (first | exact (Kd.R_reads' HO_11.out).2.2 | (with_reducible refine Kd.C_alloc ?_ _) | (with_reducible refine Kd.C_drewN ?_ _) | (with_reducible refine Kd.C_drew ?_))); (case side2 => exact (Kd.R_reads' HO_11.out).2.1); rintro e w63 ⟨rfl, hb⟩; refine ⟨_, rfl, ?_⟩; have n0_ := Aside0.mk (Kd.R_below (by (with_reducible repeat (first | apply Kd.R_alloc | apply Kd.R_drewN | apply Kd.R_drew)); exact HO_11.out) hb); have n1_ := Aside0.mk (Kd.R_below (by (with_reducible repeat (first | apply Kd.R_alloc | apply Kd.R_drewN | apply Kd.R_drew)); exact HO_34.out) hb); have n2_ := Aside0.mk (blk_below (g := gb170) (o := .cells #[.slice A0_0 l0_0.length c0_0, .int .i64 a0_1, .int .i64 a0_2, .int .i64 a0_3, .slice A0_4 l0_4.length c0_4] 58 (0, 0)) (by (with_reducible repeat (first | refine blk_drewN ?_ _ | refine blk_drew ?_ | refine blk_alloc ?_ _)); exact BK170.out) hb); have n3_ := Aside0.mk (blk_below (g := gb171) (o := .cells #[.int .i64 x172000_1, .int .i64 x172001_1, .int .i64 x172002_1] 56 (0, 0)) (by (with_reducible repeat (first | refine blk_drewN ?_ _ | refine blk_drew ?_ | refine blk_alloc ?_ _)); exact BK171.out) hb); have n4_ := Aside0.mk (blk_below (g := gb179) (o := .cells #[.int .i64 ((rd_T65 t175 x36_1).f0), .int .i64 ((rd_T65 t175 x36_1).f1), .int .i64 ((rd_T65 t175 x36_1).f2), .int .i64 ((rd_T65 t175 x36_1).f3), .int .i64 ((rd_T65 t175 x36_1).f4), .int .i64 ((rd_T65 t175 x36_1).f5), .int .i64 ((rd_T65 t175 x36_1).f6), .int .i64 ((rd_T65 t175 x36_1).f7)] 65 (0, 0)) (by (with_reducible repeat (first | refine blk_drewN ?_ _ | refine blk_drew ?_ | refine blk_alloc ?_ _)); exact BK179.out) hb); have n5_ := Aside0.mk (below_step (by repeat (first | (with_reducible first | exact HB.out | apply below_alloc | apply pw_below_drewN | apply below_drew1 | refine below_set ?_ GE170.out | refine below_set ?_ GE171.out | refine below_set ?_ GE179.out) | exact HB.out)) hb); clear HO_11; clear HO_34; clear BK170; clear BK171; clear BK179; clear HB; have HO_11 := n0_; have HO_34 := n1_; have BK170 := n2_; have BK171 := n3_; have BK179 := n4_; have HB := n5_; clear n0_ n1_ n2_ n3_ n4_ n5_; (try clear hb); (try clear hb2); (try clear hk); (try clear hi); have hcz64_0 : w63.cell? ⟨gb179, 0, none⟩ = some (.int .i64 ((rd_T65 t175 x36_1).f0)) := (blk_cell BK179.out 0).trans rfl; have hcz64_1 : w63.cell? ⟨gb179, 1, none⟩ = some (.int .i64 ((rd_T65 t175 x36_1).f1)) := (blk_cell BK179.out 1).trans rfl; have hcz64_2 : w63.cell? ⟨gb179, 2, none⟩ = some (.int .i64 ((rd_T65 t175 x36_1).f2)) := (blk_cell BK179.out 2).trans rfl; have hcz64_3 : w63.cell? ⟨gb179, 3, none⟩ = some (.int .i64 ((rd_T65 t175 x36_1).f3)) := (blk_cell BK179.out 3).trans rfl; have hcz64_4 : w63.cell? ⟨gb179, 4, none⟩ = some (.int .i64 ((rd_T65 t175 x36_1).f4)) := (blk_cell BK179.out 4).trans rfl; have hcz64_5 : w63.cell? ⟨gb179, 5, none⟩ = some (.int .i64 ((rd_T65 t175 x36_1).f5)) := (blk_cell BK179.out 5).trans rfl; have hcz64_6 : w63.cell? ⟨gb179, 6, none⟩ = some (.int .i64 ((rd_T65 t175 x36_1).f6)) := (blk_cell BK179.out 6).trans rfl; have hcz64_7 : w63.cell? ⟨gb179, 7, none⟩ = some (.int .i64 ((rd_T65 t175 x36_1).f7)) := (blk_cell BK179.out 7).trans rfl; have hfz64_0 := blk_frozen BK179.out 0; have hfz64_1 := blk_frozen BK179.out 1; have hfz64_2 := blk_frozen BK179.out 2; have hfz64_3 := blk_frozen BK179.out 3; have hfz64_4 := blk_frozen BK179.out 4; have hfz64_5 := blk_frozen BK179.out 5; have hfz64_6 := blk_frozen BK179.out 6; have hfz64_7 := blk_frozen BK179.out 7; have hcz65_0 : w63.cell? ⟨gb170, 0, none⟩ = some (.slice A0_0 l0_0.length c0_0) := (blk_cell BK170.out 0).trans rfl; have hcz65_1 : w63.cell? ⟨gb170, 1, none⟩ = some (.int .i64 a0_1) := (blk_cell BK170.out 1).trans rfl; have hcz65_2 : w63.cell? ⟨gb170, 2, none⟩ = some (.int .i64 a0_2) := (blk_cell BK170.out 2).trans rfl; have hcz65_3 : w63.cell? ⟨gb170, 3, none⟩ = some (.int .i64 a0_3) := (blk_cell BK170.out 3).trans rfl; have hcz65_4 : w63.cell? ⟨gb170, 4, none⟩ = some (.slice A0_4 l0_4.length c0_4) := (blk_cell BK170.out 4).trans rfl; have hfz65_0 := blk_frozen BK170.out 0; have hfz65_1 := blk_frozen BK170.out 1; have hfz65_2 := blk_frozen BK170.out 2; have hfz65_3 := blk_frozen BK170.out 3; have hfz65_4 := blk_frozen BK170.out 4) | (go_at_call 56; (with_reducible refine (slices_Contains_int_int.calls k1 _ _ l0_4 ((rd_T65 t175 x36_1).f2) false _ ?side1 ?side2 A40.out).mono ?_); (case side1 => repeat (first | exact (Kd.C_below HR0_4.out HB.out) | (with_reducible refine Kd.C_alloc ?_ _) | (with_reducible refine Kd.C_drewN ?_ _) | (with_reducible refine Kd.C_drew ?_))); (case side2 => exact HC0_4.out); rintro e w' ⟨rfl, ⟨nd, rfl⟩⟩; (try (rw [drewN_self w63]; generalize hq_ : World.drewN w63 _ = w63; have n0_ : Aside0 (Kd.R k71 71 w63 w.heap.size (fun _ => True) (.slice Ao62 t172.length co62) t172) := ⟨by rw [← hq_]; exact (by (with_reducible repeat (first | apply Kd.R_alloc | apply Kd.R_drewN | apply Kd.R_drew)); exact HO_11.out)⟩; have n1_ : Aside0 (Kd.R k65 65 w63 w.heap.size (fun k_ => k_ ≠ gb179) (.slice (some ad178) t175.length co14) t175) := ⟨by rw [← hq_]; exact (by (with_reducible repeat (first | apply Kd.R_alloc | apply Kd.R_drewN | apply Kd.R_drew)); exact Kd.R_mono HO_34.out (fun _ hk => hk.2))⟩; have n2_ : Aside0 (w63.heap[gb170]? = some (.cells #[.slice A0_0 l0_0.length c0_0, .int .i64 a0_1, .int .i64 a0_2, .int .i64 a0_3, .slice A0_4 l0_4.length c0_4] 58 (0, 0))) := ⟨by rw [← hq_]; exact (by (with_reducible repeat (first | refine blk_drewN ?_ _ | refine blk_drew ?_ | refine blk_alloc ?_ _)); exact BK170.out)⟩; have n3_ : Aside0 (w63.heap[gb171]? = some (.cells #[.int .i64 x172000_1, .int .i64 x172001_1, .int .i64 x172002_1] 56 (0, 0))) := ⟨by rw [← hq_]; exact (by (with_reducible repeat (first | refine blk_drewN ?_ _ | refine blk_drew ?_ | refine blk_alloc ?_ _)); exact BK171.out)⟩; have n4_ : Aside0 (w63.heap[gb179]? = some (.cells #[.int .i64 ((rd_T65 t175 x36_1).f0), .int .i64 ((rd_T65 t175 x36_1).f1), .int .i64 ((rd_T65 t175 x36_1).f2), .int .i64 ((rd_T65 t175 x36_1).f3), .int .i64 ((rd_T65 t175 x36_1).f4), .int .i64 ((rd_T65 t175 x36_1).f5), .int .i64 ((rd_T65 t175 x36_1).f6), .int .i64 ((rd_T65 t175 x36_1).f7)] 65 (0, 0))) := ⟨by rw [← hq_]; exact (by (with_reducible repeat (first | refine blk_drewN ?_ _ | refine blk_drew ?_ | refine blk_alloc ?_ _)); exact BK179.out)⟩; have n5_ : Aside0 (Below w.heap.size w w63) := ⟨by rw [← hq_]; exact (by repeat (first | (with_reducible first | exact HB.out | apply below_alloc | apply pw_below_drewN | apply below_drew1 | refine below_set ?_ GE170.out | refine below_set ?_ GE171.out | refine below_set ?_ GE179.out) | exact HB.out))⟩; clear HO_11 HO_34 BK170 BK171 BK179 HB hq_; have HO_11 := n0_; have HO_34 := n1_; have BK170 := n2_; have BK171 := n3_; have BK179 := n4_; have HB := n5_; clear n0_ n1_ n2_ n3_ n4_ n5_))))
                      have n0_ := Aside0.mk (Kd.R_drew HO_11.out)
                      have n1_ := Aside0.mk (Kd.R_drew HO_34.out)
                      have n2_ := Aside0.mk (blk_drew BK170.out)
                      have n3_ := Aside0.mk (blk_drew BK171.out)
                      have n4_ := Aside0.mk (blk_drew BK179.out)
                      have n5_ := Aside0.mk (below_drew1 HB.out)
                      clear HO_11
                      clear HO_34
                      clear BK170
                      clear BK171
                      clear BK179
                      clear HB
                      have HO_11 := n0_
                      have HO_34 := n1_
                      have BK170 := n2_
                      have BK171 := n3_
                      have BK179 := n4_
                      have HB := n5_
                      clear n0_ n1_ n2_ n3_ n4_ n5_
                      refine start_ (n := 10) (S := fun w' => w'.cell? ⟨gb179, 0, none⟩ = some (.int .i64 ((rd_T65 t175 x36_1).f0)) ∧ w'.cell? ⟨gb179, 1, none⟩ = some (.int .i64 ((rd_T65 t175 x36_1).f1)) ∧ w'.cell? ⟨gb179, 2, none⟩ = some (.int .i64 ((rd_T65 t175 x36_1).f2)) ∧ w'.cell? ⟨gb179, 3, none⟩ = some (.int .i64 ((rd_T65 t175 x36_1).f3)) ∧ w'.cell? ⟨gb179, 4, none⟩ = some (.int .i64 ((rd_T65 t175 x36_1).f4)) ∧ w'.cell? ⟨gb179, 5, none⟩ = some (.int .i64 ((rd_T65 t175 x36_1).f5)) ∧ w'.cell? ⟨gb179, 6, none⟩ = some (.int .i64 ((rd_T65 t175 x36_1).f6)) ∧ w'.cell? ⟨gb179, 7, none⟩ = some (.int .i64 ((rd_T65 t175 x36_1).f7))) (ds := []) #[false, false, false, false, false, false, false, false, false, false] (by kernel_rfl) rfl rfl ⟨(blk_cell BK179.out 0).trans rfl, (blk_cell BK179.out 1).trans rfl, (blk_cell BK179.out 2).trans rfl, (blk_cell BK179.out 3).trans rfl, (blk_cell BK179.out 4).trans rfl, (blk_cell BK179.out 5).trans rfl, (blk_cell BK179.out 6).trans rfl, (blk_cell BK179.out 7).trans rfl⟩ (fun hHeld => ?_); refine with_tabW least_search_next.tab8 least_search_next.bits8 (fun HT_ HW_ => ?_)
                      generalize w63.drew = w66 at HO_11 HO_34 BK170 BK171 BK179 HB hHeld ⊢
                      refine pure_ (i := 0) (N := some 80) (v := ?_) (a' := ?_) #[true, false, false, false, false, false, false, false, false, false] rfl rfl (any_of HT_.out (by kernel_rfl)) (fun _ _ _ h => h) (Or.inl ⟨by rfl, ?_⟩) ?_ ?_
                      rotate_left
                      · intro w'
                        go_simp
                        with_reducible rfl
                      rotate_left
                      · simp only [Act.put, List.setIfInBounds_toArray, List.set_cons_zero, List.set_cons_succ, i64_w, i32_w]
                        rfl
                      refine pure_ (i := 2) (N := some 82) (v := ?_) (a' := ?_) #[true, false, true, false, false, false, false, false, false, false] rfl rfl (any_of HT_.out (by kernel_rfl)) (fun _ _ _ h => h) (Or.inl ⟨by rfl, ?_⟩) ?_ ?_
                      rotate_left
                      · intro w'
                        go_simp
                        with_reducible rfl
                      rotate_left
                      · simp only [Act.put, List.setIfInBounds_toArray, List.set_cons_zero, List.set_cons_succ, i64_w, i32_w]
                        rfl
                      refine pure_ (i := 3) (N := some 83) (v := ?_) (a' := ?_) #[true, false, true, true, false, false, false, false, false, false] rfl rfl (any_of HT_.out (by kernel_rfl)) (fun _ _ _ h => h) (Or.inl ⟨by rfl, ?_⟩) ?_ ?_
                      rotate_left
                      · intro w'
                        go_simp
                        with_reducible rfl
                      rotate_left
                      · simp only [Act.put, List.setIfInBounds_toArray, List.set_cons_zero, List.set_cons_succ, i64_w, i32_w]
                        rfl
                      refine pure_ (i := 5) (N := some 85) (v := ?_) (a' := ?_) #[true, false, true, true, false, true, false, false, false, false] rfl rfl (any_of HT_.out (by kernel_rfl)) (fun _ _ _ h => h) (Or.inl ⟨by rfl, ?_⟩) ?_ ?_
                      rotate_left
                      · intro w'
                        go_simp
                        with_reducible rfl
                      rotate_left
                      · simp only [Act.put, List.setIfInBounds_toArray, List.set_cons_zero, List.set_cons_succ, i64_w, i32_w]
                        rfl
                      refine take_ (i := 1) (N := some 81) (v := ?_) (a' := ?_) #[true, true, true, true, false, true, false, false, false, false] rfl rfl (take_ofW HT_.out HW_.out (by kernel_rfl)) (fun _ _ _ h => h) (Or.inl ⟨by rfl, ?_⟩) hHeld ?_ ?_
                      rotate_left
                      · rintro w' ⟨s0, s1, s2, s3, s4, s5, s6, s7⟩
                        go_simp
                        with_reducible rfl
                      rotate_left
                      · simp only [Act.put, List.setIfInBounds_toArray, List.set_cons_zero, List.set_cons_succ, i64_w, i32_w]
                        rfl
                      refine pure_ (i := 4) (N := some 84) (v := ?_) (a' := ?_) #[true, true, true, true, true, true, false, false, false, false] rfl rfl (any_of HT_.out (by kernel_rfl)) (fun _ _ _ h => h) (Or.inl ⟨by rfl, ?_⟩) ?_ ?_
                      rotate_left
                      · intro w'
                        go_simp
                        with_reducible rfl
                      rotate_left
                      · simp only [Act.put, List.setIfInBounds_toArray, List.set_cons_zero, List.set_cons_succ, i64_w, i32_w]
                        rfl
                      refine take_ (i := 6) (N := some 86) (v := ?_) (a' := ?_) #[true, true, true, true, true, true, true, false, false, false] rfl rfl (take_ofW HT_.out HW_.out (by kernel_rfl)) (fun _ _ _ h => h) (Or.inl ⟨by rfl, ?_⟩) hHeld ?_ ?_
                      rotate_left
                      · rintro w' ⟨s0, s1, s2, s3, s4, s5, s6, s7⟩
                        go_simp
                        with_reducible rfl
                      rotate_left
                      · simp only [Act.put, List.setIfInBounds_toArray, List.set_cons_zero, List.set_cons_succ, i64_w, i32_w]
                        rfl
                      refine one_ (i := 7) (N := none) #[true, true, true, true, true, true, true, true, false, false] rfl rfl (one_of HT_.out (by kernel_rfl)) (by decide) (fun K hK => ?_)
                      have hs67 : w66.cell? ⟨gb171, 0, none⟩ = some (.int .i64 x172000_1) := (blk_cell BK171.out 0).trans rfl
                      have hfs67 := blk_frozen BK171.out 0
                      have hns67_0 := NB170_171.out
                      have hns67_2 := NB179_171.out
                      have hms67_0 := NB171_170.out
                      have hms67_2 := NB171_179.out
                      have hs68 : w66.cell? ⟨gb171, 1, none⟩ = some (.int .i64 x172001_1) := (blk_cell BK171.out 1).trans rfl
                      have hfs68 := blk_frozen BK171.out 1
                      have hns68_0 := NB170_171.out
                      have hns68_2 := NB179_171.out
                      have hms68_0 := NB171_170.out
                      have hms68_2 := NB171_179.out
                      have hs69 : w66.cell? ⟨gb171, 2, none⟩ = some (.int .i64 x172002_1) := (blk_cell BK171.out 2).trans rfl
                      have hfs69 := blk_frozen BK171.out 2
                      have hns69_0 := NB170_171.out
                      have hns69_2 := NB179_171.out
                      have hms69_0 := NB171_170.out
                      have hms69_2 := NB171_179.out
                      refine skip_ (w1 := ?_) (by rfl) rfl ?_ ?_
                      rotate_left
                      · go_simp
                        rfl
                      refine hK.out _ _ ⟨((cell_far (p := ⟨gb171, _, none⟩) NB179_171.out _).trans (((cell_far (p := ⟨gb171, _, none⟩) NB179_171.out _).trans (((cell_far (p := ⟨gb171, _, none⟩) NB179_171.out _).trans (hHeld.1)))))), ((cell_far (p := ⟨gb171, _, none⟩) NB179_171.out _).trans (((cell_far (p := ⟨gb171, _, none⟩) NB179_171.out _).trans (((cell_far (p := ⟨gb171, _, none⟩) NB179_171.out _).trans (hHeld.2.1)))))), ((cell_far (p := ⟨gb171, _, none⟩) NB179_171.out _).trans (((cell_far (p := ⟨gb171, _, none⟩) NB179_171.out _).trans (((cell_far (p := ⟨gb171, _, none⟩) NB179_171.out _).trans (hHeld.2.2.1)))))), ((cell_far (p := ⟨gb171, _, none⟩) NB179_171.out _).trans (((cell_far (p := ⟨gb171, _, none⟩) NB179_171.out _).trans (((cell_far (p := ⟨gb171, _, none⟩) NB179_171.out _).trans (hHeld.2.2.2.1)))))), ((cell_far (p := ⟨gb171, _, none⟩) NB179_171.out _).trans (((cell_far (p := ⟨gb171, _, none⟩) NB179_171.out _).trans (((cell_far (p := ⟨gb171, _, none⟩) NB179_171.out _).trans (hHeld.2.2.2.2.1)))))), ((cell_far (p := ⟨gb171, _, none⟩) NB179_171.out _).trans (((cell_far (p := ⟨gb171, _, none⟩) NB179_171.out _).trans (((cell_far (p := ⟨gb171, _, none⟩) NB179_171.out _).trans (hHeld.2.2.2.2.2.1)))))), ((cell_far (p := ⟨gb171, _, none⟩) NB179_171.out _).trans (((cell_far (p := ⟨gb171, _, none⟩) NB179_171.out _).trans (((cell_far (p := ⟨gb171, _, none⟩) NB179_171.out _).trans (hHeld.2.2.2.2.2.2.1)))))), ((cell_far (p := ⟨gb171, _, none⟩) NB179_171.out _).trans (((cell_far (p := ⟨gb171, _, none⟩) NB179_171.out _).trans (((cell_far (p := ⟨gb171, _, none⟩) NB179_171.out _).trans (hHeld.2.2.2.2.2.2.2))))))⟩ (fun hHeld => ?_)
                      clear hK K
                      refine pure_ (i := 8) (N := some 9) (v := ?_) (a' := ?_) #[true, true, true, true, true, true, true, true, true, false] rfl rfl (any_of HT_.out (by kernel_rfl)) (fun _ _ _ h => h) (Or.inl ⟨by rfl, ?_⟩) ?_ ?_
                      rotate_left
                      · intro w'
                        go_simp
                        with_reducible rfl
                      rotate_left
                      · simp only [Act.put, List.setIfInBounds_toArray, List.set_cons_zero, List.set_cons_succ, i64_w, i32_w]
                        rfl
                      refine pure_ (i := 9) (N := some 10) (v := ?_) (a' := ?_) #[true, true, true, true, true, true, true, true, true, true] rfl rfl (any_of HT_.out (by kernel_rfl)) (fun _ _ _ h => h) (Or.inl ⟨by rfl, ?_⟩) ?_ ?_
                      rotate_left
                      · intro w'
                        go_simp
                        with_reducible rfl
                      rotate_left
                      · simp only [Act.put, List.setIfInBounds_toArray, List.set_cons_zero, List.set_cons_succ, i64_w, i32_w]
                        rfl
                      refine done_ (done_of HT_.out (by kernel_rfl)) ?_
                      try go_wp2
                      refine bodyPost_ret (results_ctt rfl _ _ gb171 56 #[.int .i64 ((rd_T65 t175 x36_1).f0), .int .i64 t180, .int .i64 t181] (0, 0) _ rfl (by (with_reducible repeat (first | refine blk_drewN ?_ _ | refine blk_drew ?_ | refine blk_alloc ?_ _)); refine blk_put (cs := #[.int .i64 ((rd_T65 t175 x36_1).f0), .int .i64 t180, .int .i64 x172002_1]) ?_ 2 _ rfl; (with_reducible repeat (first | refine blk_drewN ?_ _ | refine blk_drew ?_ | refine blk_alloc ?_ _)); refine blk_put (cs := #[.int .i64 ((rd_T65 t175 x36_1).f0), .int .i64 x172001_1, .int .i64 x172002_1]) ?_ 1 _ rfl; (with_reducible repeat (first | refine blk_drewN ?_ _ | refine blk_drew ?_ | refine blk_alloc ?_ _)); refine blk_put (cs := #[.int .i64 x172000_1, .int .i64 x172001_1, .int .i64 x172002_1]) ?_ 0 _ rfl; (with_reducible repeat (first | refine blk_drewN ?_ _ | refine blk_drew ?_ | refine blk_alloc ?_ _)); exact BK171.out) Try.underlying56 rfl (by kernel_rfl)) rfl ?_
                      exact ⟨by first | rfl | (simp [errW_none, errW_some] <;> rfl) | (simp [*, errW_none, errW_some] <;> rfl), by repeat (first | (with_reducible first | exact HB.out | apply below_alloc | apply pw_below_drewN | apply below_drew1 | refine below_set ?_ GE170.out | refine below_set ?_ GE171.out | refine below_set ?_ GE179.out) | exact HB.out)⟩
                · rw [if_neg c22] at H
                  have c22b0 : decide (t181 ≤ t183) = false := decide_eq_false c22
                  clear c22
                  have H' := Aside0.mk H
                  clear H
                  have p178 : 0 ≤ (x36_1 : Int) := of_decide_eq_true (by first | (with_reducible assumption) | assumption)
                  have q178 : x36_1 < (t175.length : Int) := of_decide_eq_true (by first | (with_reducible assumption) | assumption)
                  obtain ⟨ad178, e178, hx178_0, hx178_1, hx178_2, hx178_3, hx178_4, hx178_5, hx178_6, hx178_7⟩ := at_T65 (Kd.R_reads' HO_34.out).2.2 x36_1 p178 q178
                  cases e178
                  replace p178 := eq_true p178
                  replace q178 := eq_true q178
                  go_wp2_with (first | ((with_reducible refine gate_dst (N := 13) rfl ?_); refine box_event ?hg (N := 13) ?hd (cs := #[.int .i64 0, .int .i64 0, .int .i64 0, .int .i64 0, .int .i64 0, .int .i64 0, .int .i64 0, .int .i64 0]) (t := 65) ?hr ?_; (case hd => rfl); (case hg => rfl); (case hr => first | (go_simp; done) | (go_simp; rfl)); intro gb179 hg w70 hbox hb; have n0_ := Aside0.mk (Kd.R_below (by (with_reducible repeat (first | apply Kd.R_alloc | apply Kd.R_drewN | apply Kd.R_drew)); exact HO_11.out) hb); have n1_ := Aside0.mk (Kd.R_below (Kd.R_elderB (by (with_reducible repeat (first | apply Kd.R_alloc | apply Kd.R_drewN | apply Kd.R_drew)); exact HO_34.out) gb179 (Nat.le_of_eq hg.symm)) hb); have n2_ := Aside0.mk (blk_below (g := gb170) (o := .cells #[.slice A0_0 l0_0.length c0_0, .int .i64 a0_1, .int .i64 a0_2, .int .i64 a0_3, .slice A0_4 l0_4.length c0_4] 58 (0, 0)) (by (with_reducible repeat (first | refine blk_drewN ?_ _ | refine blk_drew ?_ | refine blk_alloc ?_ _)); exact BK170.out) hb); have n3_ := Aside0.mk (blk_below (g := gb171) (o := .cells #[.int .i64 x172000_1, .int .i64 x172001_1, .int .i64 x172002_1] 56 (0, 0)) (by (with_reducible repeat (first | refine blk_drewN ?_ _ | refine blk_drew ?_ | refine blk_alloc ?_ _)); exact BK171.out) hb); have n4_ := Aside0.mk (below_step (by repeat (first | (with_reducible first | exact HB.out | apply below_alloc | apply pw_below_drewN | apply below_drew1 | refine below_set ?_ GE170.out | refine below_set ?_ GE171.out) | exact HB.out)) hb); have n5_ := Aside0.mk (hbox); have n6_ := Aside0.mk ((by rw [hg]; exact (below_size (by repeat (first | (with_reducible first | exact HB.out | apply below_alloc | apply pw_below_drewN | apply below_drew1 | refine below_set ?_ GE170.out | refine below_set ?_ GE171.out) | exact HB.out))) : w.heap.size ≤ gb179)); have n7_ := Aside0.mk ((by rw [hg]; exact (below_size (by repeat (first | (with_reducible first | exact HB.out | apply below_alloc | apply pw_below_drewN | apply below_drew1 | refine below_set ?_ GE170.out | refine below_set ?_ GE171.out) | exact HB.out))) : w.heap.size ≤ gb179)); have n8_ := Aside0.mk ((by rw [hg]; exact Nat.ne_of_lt (blk_lt (g := gb170) (o := .cells #[.slice A0_0 l0_0.length c0_0, .int .i64 a0_1, .int .i64 a0_2, .int .i64 a0_3, .slice A0_4 l0_4.length c0_4] 58 (0, 0)) (by (with_reducible repeat (first | refine blk_drewN ?_ _ | refine blk_drew ?_ | refine blk_alloc ?_ _)); exact BK170.out)) : gb170 ≠ gb179)); have n9_ := Aside0.mk ((by rw [hg]; exact Nat.ne_of_gt (blk_lt (g := gb170) (o := .cells #[.slice A0_0 l0_0.length c0_0, .int .i64 a0_1, .int .i64 a0_2, .int .i64 a0_3, .slice A0_4 l0_4.length c0_4] 58 (0, 0)) (by (with_reducible repeat (first | refine blk_drewN ?_ _ | refine blk_drew ?_ | refine blk_alloc ?_ _)); exact BK170.out)) : gb179 ≠ gb170)); have n10_ := Aside0.mk ((by rw [hg]; exact Nat.ne_of_lt (blk_lt (g := gb171) (o := .cells #[.int .i64 x172000_1, .int .i64 x172001_1, .int .i64 x172002_1] 56 (0, 0)) (by (with_reducible repeat (first | refine blk_drewN ?_ _ | refine blk_drew ?_ | refine blk_alloc ?_ _)); exact BK171.out)) : gb171 ≠ gb179)); have n11_ := Aside0.mk ((by rw [hg]; exact Nat.ne_of_gt (blk_lt (g := gb171) (o := .cells #[.int .i64 x172000_1, .int .i64 x172001_1, .int .i64 x172002_1] 56 (0, 0)) (by (with_reducible repeat (first | refine blk_drewN ?_ _ | refine blk_drew ?_ | refine blk_alloc ?_ _)); exact BK171.out)) : gb179 ≠ gb171)); clear HO_11; clear HO_34; clear BK170; clear BK171; clear HB; have HO_11 := n0_; have HO_34 := n1_; have BK170 := n2_; have BK171 := n3_; have HB := n4_; have BK179 := n5_; have GW179 := n6_; have GE179 := n7_; have NB170_179 := n8_; have NB179_170 := n9_; have NB171_179 := n10_; have NB179_171 := n11_; clear n0_ n1_ n2_ n3_ n4_ n5_ n6_ n7_ n8_ n9_ n10_ n11_; clear hb hbox hg; have hnb71 := NB179_170.out; have hnc71 := NB170_179.out; have hnb72 := NB179_171.out; have hnc72 := NB171_179.out; have hcz73_0 : w70.cell? ⟨gb179, 0, none⟩ = some (.int .i64 0) := (blk_cell BK179.out 0).trans rfl; have hcz73_1 : w70.cell? ⟨gb179, 1, none⟩ = some (.int .i64 0) := (blk_cell BK179.out 1).trans rfl; have hcz73_2 : w70.cell? ⟨gb179, 2, none⟩ = some (.int .i64 0) := (blk_cell BK179.out 2).trans rfl; have hcz73_3 : w70.cell? ⟨gb179, 3, none⟩ = some (.int .i64 0) := (blk_cell BK179.out 3).trans rfl; have hcz73_4 : w70.cell? ⟨gb179, 4, none⟩ = some (.int .i64 0) := (blk_cell BK179.out 4).trans rfl; have hcz73_5 : w70.cell? ⟨gb179, 5, none⟩ = some (.int .i64 0) := (blk_cell BK179.out 5).trans rfl; have hcz73_6 : w70.cell? ⟨gb179, 6, none⟩ = some (.int .i64 0) := (blk_cell BK179.out 6).trans rfl; have hcz73_7 : w70.cell? ⟨gb179, 7, none⟩ = some (.int .i64 0) := (blk_cell BK179.out 7).trans rfl; have hfz73_0 := blk_frozen BK179.out 0; have hfz73_1 := blk_frozen BK179.out 1; have hfz73_2 := blk_frozen BK179.out 2; have hfz73_3 := blk_frozen BK179.out 3; have hfz73_4 := blk_frozen BK179.out 4; have hfz73_5 := blk_frozen BK179.out 5; have hfz73_6 := blk_frozen BK179.out 6; have hfz73_7 := blk_frozen BK179.out 7; have hnb74 := NB170_171.out; have hnc74 := NB171_170.out; have hcz75_0 : w70.cell? ⟨gb170, 0, none⟩ = some (.slice A0_0 l0_0.length c0_0) := (blk_cell BK170.out 0).trans rfl; have hcz75_1 : w70.cell? ⟨gb170, 1, none⟩ = some (.int .i64 a0_1) := (blk_cell BK170.out 1).trans rfl; have hcz75_2 : w70.cell? ⟨gb170, 2, none⟩ = some (.int .i64 a0_2) := (blk_cell BK170.out 2).trans rfl; have hcz75_3 : w70.cell? ⟨gb170, 3, none⟩ = some (.int .i64 a0_3) := (blk_cell BK170.out 3).trans rfl; have hcz75_4 : w70.cell? ⟨gb170, 4, none⟩ = some (.slice A0_4 l0_4.length c0_4) := (blk_cell BK170.out 4).trans rfl; have hfz75_0 := blk_frozen BK170.out 0; have hfz75_1 := blk_frozen BK170.out 1; have hfz75_2 := blk_frozen BK170.out 2; have hfz75_3 := blk_frozen BK170.out 3; have hfz75_4 := blk_frozen BK170.out 4) | ((with_reducible refine gate_callee (f := 46) rfl ?_); refine goesL_ (some 45) rfl rfl Try.func46 (by kernel_rfl) rfl #[.agg #[.int .i64 ((rd_T65 t175 x36_1).f0), .int .i64 ((rd_T65 t175 x36_1).f1), .int .i64 ((rd_T65 t175 x36_1).f2), .int .i64 ((rd_T65 t175 x36_1).f3), .int .i64 ((rd_T65 t175 x36_1).f4), .int .i64 ((rd_T65 t175 x36_1).f5), .int .i64 ((rd_T65 t175 x36_1).f6), .int .i64 ((rd_T65 t175 x36_1).f7)], .int .i64 a2, .int .i64 a0_2] rfl (by (try simp only [List.map_toArray, List.map_cons, List.map_nil]); first | done | rfl | (simp only [List.length_drop, List.length_take]; rfl)) ?_; (with_reducible refine (hop_Pass.calls k1 ((rd_T65 t175 x36_1).f0) ((rd_T65 t175 x36_1).f1) ((rd_T65 t175 x36_1).f2) ((rd_T65 t175 x36_1).f3) ((rd_T65 t175 x36_1).f4) ((rd_T65 t175 x36_1).f5) ((rd_T65 t175 x36_1).f6) ((rd_T65 t175 x36_1).f7) a2 a0_2 t180 t181 true _ A18.out).mono ?_); rintro e w76 ⟨rfl, hb⟩; refine ⟨_, rfl, ?_⟩; have n0_ := Aside0.mk (Kd.R_below (by (with_reducible repeat (first | apply Kd.R_alloc | apply Kd.R_drewN | apply Kd.R_drew)); exact (Kd.R_mono (Kd.R_far (p := ⟨gb179, 7, none⟩) (Kd.R_far (p := ⟨gb179, 6, none⟩) (Kd.R_far (p := ⟨gb179, 5, none⟩) (Kd.R_far (p := ⟨gb179, 4, none⟩) (Kd.R_far (p := ⟨gb179, 3, none⟩) (Kd.R_far (p := ⟨gb179, 2, none⟩) (Kd.R_far (p := ⟨gb179, 1, none⟩) (Kd.R_far (p := ⟨gb179, 0, none⟩) (Kd.R_types HO_11.out BK179.out (by decide)) (fun _ hk => hk.2) (.int .i64 ((rd_T65 t175 x36_1).f0))) (fun _ hk => hk.2) (.int .i64 ((rd_T65 t175 x36_1).f1))) (fun _ hk => hk.2) (.int .i64 ((rd_T65 t175 x36_1).f2))) (fun _ hk => hk.2) (.int .i64 ((rd_T65 t175 x36_1).f3))) (fun _ hk => hk.2) (.int .i64 ((rd_T65 t175 x36_1).f4))) (fun _ hk => hk.2) (.int .i64 ((rd_T65 t175 x36_1).f5))) (fun _ hk => hk.2) (.int .i64 ((rd_T65 t175 x36_1).f6))) (fun _ hk => hk.2) (.int .i64 ((rd_T65 t175 x36_1).f7))) (fun _ h_ => h_.1))) hb); have n1_ := Aside0.mk (Kd.R_below (by (with_reducible repeat (first | apply Kd.R_alloc | apply Kd.R_drewN | apply Kd.R_drew)); exact (Kd.R_mono (Kd.R_far (p := ⟨gb179, 7, none⟩) (Kd.R_far (p := ⟨gb179, 6, none⟩) (Kd.R_far (p := ⟨gb179, 5, none⟩) (Kd.R_far (p := ⟨gb179, 4, none⟩) (Kd.R_far (p := ⟨gb179, 3, none⟩) (Kd.R_far (p := ⟨gb179, 2, none⟩) (Kd.R_far (p := ⟨gb179, 1, none⟩) (Kd.R_far (p := ⟨gb179, 0, none⟩) (Kd.R_mono HO_34.out (fun k_ hk => (⟨hk, hk.2⟩ : _ ∧ k_ ≠ gb179))) (fun _ hk => hk.2) (.int .i64 ((rd_T65 t175 x36_1).f0))) (fun _ hk => hk.2) (.int .i64 ((rd_T65 t175 x36_1).f1))) (fun _ hk => hk.2) (.int .i64 ((rd_T65 t175 x36_1).f2))) (fun _ hk => hk.2) (.int .i64 ((rd_T65 t175 x36_1).f3))) (fun _ hk => hk.2) (.int .i64 ((rd_T65 t175 x36_1).f4))) (fun _ hk => hk.2) (.int .i64 ((rd_T65 t175 x36_1).f5))) (fun _ hk => hk.2) (.int .i64 ((rd_T65 t175 x36_1).f6))) (fun _ hk => hk.2) (.int .i64 ((rd_T65 t175 x36_1).f7))) (fun _ h_ => h_.1))) hb); have n2_ := Aside0.mk (blk_below (g := gb170) (o := .cells #[.slice A0_0 l0_0.length c0_0, .int .i64 a0_1, .int .i64 a0_2, .int .i64 a0_3, .slice A0_4 l0_4.length c0_4] 58 (0, 0)) (by (with_reducible repeat (first | refine blk_drewN ?_ _ | refine blk_drew ?_ | refine blk_alloc ?_ _)); refine blk_far ?_ NB170_179.out _; (with_reducible repeat (first | refine blk_drewN ?_ _ | refine blk_drew ?_ | refine blk_alloc ?_ _)); refine blk_far ?_ NB170_179.out _; (with_reducible repeat (first | refine blk_drewN ?_ _ | refine blk_drew ?_ | refine blk_alloc ?_ _)); refine blk_far ?_ NB170_179.out _; (with_reducible repeat (first | refine blk_drewN ?_ _ | refine blk_drew ?_ | refine blk_alloc ?_ _)); refine blk_far ?_ NB170_179.out _; (with_reducible repeat (first | refine blk_drewN ?_ _ | refine blk_drew ?_ | refine blk_alloc ?_ _)); refine blk_far ?_ NB170_179.out _; (with_reducible repeat (first | refine blk_drewN ?_ _ | refine blk_drew ?_ | refine blk_alloc ?_ _)); refine blk_far ?_ NB170_179.out _; (with_reducible repeat (first | refine blk_drewN ?_ _ | refine blk_drew ?_ | refine blk_alloc ?_ _)); refine blk_far ?_ NB170_179.out _; (with_reducible repeat (first | refine blk_drewN ?_ _ | refine blk_drew ?_ | refine blk_alloc ?_ _)); refine blk_far ?_ NB170_179.out _; (with_reducible repeat (first | refine blk_drewN ?_ _ | refine blk_drew ?_ | refine blk_alloc ?_ _)); exact BK170.out) hb); have n3_ := Aside0.mk (blk_below (g := gb171) (o := .cells #[.int .i64 x172000_1, .int .i64 x172001_1, .int .i64 x172002_1] 56 (0, 0)) (by (with_reducible repeat (first | refine blk_drewN ?_ _ | refine blk_drew ?_ | refine blk_alloc ?_ _)); refine blk_far ?_ NB171_179.out _; (with_reducible repeat (first | refine blk_drewN ?_ _ | refine blk_drew ?_ | refine blk_alloc ?_ _)); refine blk_far ?_ NB171_179.out _; (with_reducible repeat (first | refine blk_drewN ?_ _ | refine blk_drew ?_ | refine blk_alloc ?_ _)); refine blk_far ?_ NB171_179.out _; (with_reducible repeat (first | refine blk_drewN ?_ _ | refine blk_drew ?_ | refine blk_alloc ?_ _)); refine blk_far ?_ NB171_179.out _; (with_reducible repeat (first | refine blk_drewN ?_ _ | refine blk_drew ?_ | refine blk_alloc ?_ _)); refine blk_far ?_ NB171_179.out _; (with_reducible repeat (first | refine blk_drewN ?_ _ | refine blk_drew ?_ | refine blk_alloc ?_ _)); refine blk_far ?_ NB171_179.out _; (with_reducible repeat (first | refine blk_drewN ?_ _ | refine blk_drew ?_ | refine blk_alloc ?_ _)); refine blk_far ?_ NB171_179.out _; (with_reducible repeat (first | refine blk_drewN ?_ _ | refine blk_drew ?_ | refine blk_alloc ?_ _)); refine blk_far ?_ NB171_179.out _; (with_reducible repeat (first | refine blk_drewN ?_ _ | refine blk_drew ?_ | refine blk_alloc ?_ _)); exact BK171.out) hb); have n4_ := Aside0.mk (blk_below (g := gb179) (o := .cells #[.int .i64 ((rd_T65 t175 x36_1).f0), .int .i64 ((rd_T65 t175 x36_1).f1), .int .i64 ((rd_T65 t175 x36_1).f2), .int .i64 ((rd_T65 t175 x36_1).f3), .int .i64 ((rd_T65 t175 x36_1).f4), .int .i64 ((rd_T65 t175 x36_1).f5), .int .i64 ((rd_T65 t175 x36_1).f6), .int .i64 ((rd_T65 t175 x36_1).f7)] 65 (0, 0)) (by (with_reducible repeat (first | refine blk_drewN ?_ _ | refine blk_drew ?_ | refine blk_alloc ?_ _)); refine blk_put (cs := #[.int .i64 ((rd_T65 t175 x36_1).f0), .int .i64 ((rd_T65 t175 x36_1).f1), .int .i64 ((rd_T65 t175 x36_1).f2), .int .i64 ((rd_T65 t175 x36_1).f3), .int .i64 ((rd_T65 t175 x36_1).f4), .int .i64 ((rd_T65 t175 x36_1).f5), .int .i64 ((rd_T65 t175 x36_1).f6), .int .i64 0]) ?_ 7 _ rfl; (with_reducible repeat (first | refine blk_drewN ?_ _ | refine blk_drew ?_ | refine blk_alloc ?_ _)); refine blk_put (cs := #[.int .i64 ((rd_T65 t175 x36_1).f0), .int .i64 ((rd_T65 t175 x36_1).f1), .int .i64 ((rd_T65 t175 x36_1).f2), .int .i64 ((rd_T65 t175 x36_1).f3), .int .i64 ((rd_T65 t175 x36_1).f4), .int .i64 ((rd_T65 t175 x36_1).f5), .int .i64 0, .int .i64 0]) ?_ 6 _ rfl; (with_reducible repeat (first | refine blk_drewN ?_ _ | refine blk_drew ?_ | refine blk_alloc ?_ _)); refine blk_put (cs := #[.int .i64 ((rd_T65 t175 x36_1).f0), .int .i64 ((rd_T65 t175 x36_1).f1), .int .i64 ((rd_T65 t175 x36_1).f2), .int .i64 ((rd_T65 t175 x36_1).f3), .int .i64 ((rd_T65 t175 x36_1).f4), .int .i64 0, .int .i64 0, .int .i64 0]) ?_ 5 _ rfl; (with_reducible repeat (first | refine blk_drewN ?_ _ | refine blk_drew ?_ | refine blk_alloc ?_ _)); refine blk_put (cs := #[.int .i64 ((rd_T65 t175 x36_1).f0), .int .i64 ((rd_T65 t175 x36_1).f1), .int .i64 ((rd_T65 t175 x36_1).f2), .int .i64 ((rd_T65 t175 x36_1).f3), .int .i64 0, .int .i64 0, .int .i64 0, .int .i64 0]) ?_ 4 _ rfl; (with_reducible repeat (first | refine blk_drewN ?_ _ | refine blk_drew ?_ | refine blk_alloc ?_ _)); refine blk_put (cs := #[.int .i64 ((rd_T65 t175 x36_1).f0), .int .i64 ((rd_T65 t175 x36_1).f1), .int .i64 ((rd_T65 t175 x36_1).f2), .int .i64 0, .int .i64 0, .int .i64 0, .int .i64 0, .int .i64 0]) ?_ 3 _ rfl; (with_reducible repeat (first | refine blk_drewN ?_ _ | refine blk_drew ?_ | refine blk_alloc ?_ _)); refine blk_put (cs := #[.int .i64 ((rd_T65 t175 x36_1).f0), .int .i64 ((rd_T65 t175 x36_1).f1), .int .i64 0, .int .i64 0, .int .i64 0, .int .i64 0, .int .i64 0, .int .i64 0]) ?_ 2 _ rfl; (with_reducible repeat (first | refine blk_drewN ?_ _ | refine blk_drew ?_ | refine blk_alloc ?_ _)); refine blk_put (cs := #[.int .i64 ((rd_T65 t175 x36_1).f0), .int .i64 0, .int .i64 0, .int .i64 0, .int .i64 0, .int .i64 0, .int .i64 0, .int .i64 0]) ?_ 1 _ rfl; (with_reducible repeat (first | refine blk_drewN ?_ _ | refine blk_drew ?_ | refine blk_alloc ?_ _)); refine blk_put (cs := #[.int .i64 0, .int .i64 0, .int .i64 0, .int .i64 0, .int .i64 0, .int .i64 0, .int .i64 0, .int .i64 0]) ?_ 0 _ rfl; (with_reducible repeat (first | refine blk_drewN ?_ _ | refine blk_drew ?_ | refine blk_alloc ?_ _)); exact BK179.out) hb); have n5_ := Aside0.mk (below_step (by repeat (first | (with_reducible first | exact HB.out | apply below_alloc | apply pw_below_drewN | apply below_drew1 | refine below_set ?_ GE170.out | refine below_set ?_ GE171.out | refine below_set ?_ GE179.out) | exact HB.out)) hb); clear HO_11; clear HO_34; clear BK170; clear BK171; clear BK179; clear HB; have HO_11 := n0_; have HO_34 := n1_; have BK170 := n2_; have BK171 := n3_; have BK179 := n4_; have HB := n5_; clear n0_ n1_ n2_ n3_ n4_ n5_; (try clear hb); (try clear hb2); (try clear hk); (try clear hi); have hcz77_0 : w76.cell? ⟨gb179, 0, none⟩ = some (.int .i64 ((rd_T65 t175 x36_1).f0)) := (blk_cell BK179.out 0).trans rfl; have hcz77_1 : w76.cell? ⟨gb179, 1, none⟩ = some (.int .i64 ((rd_T65 t175 x36_1).f1)) := (blk_cell BK179.out 1).trans rfl; have hcz77_2 : w76.cell? ⟨gb179, 2, none⟩ = some (.int .i64 ((rd_T65 t175 x36_1).f2)) := (blk_cell BK179.out 2).trans rfl; have hcz77_3 : w76.cell? ⟨gb179, 3, none⟩ = some (.int .i64 ((rd_T65 t175 x36_1).f3)) := (blk_cell BK179.out 3).trans rfl; have hcz77_4 : w76.cell? ⟨gb179, 4, none⟩ = some (.int .i64 ((rd_T65 t175 x36_1).f4)) := (blk_cell BK179.out 4).trans rfl; have hcz77_5 : w76.cell? ⟨gb179, 5, none⟩ = some (.int .i64 ((rd_T65 t175 x36_1).f5)) := (blk_cell BK179.out 5).trans rfl; have hcz77_6 : w76.cell? ⟨gb179, 6, none⟩ = some (.int .i64 ((rd_T65 t175 x36_1).f6)) := (blk_cell BK179.out 6).trans rfl; have hcz77_7 : w76.cell? ⟨gb179, 7, none⟩ = some (.int .i64 ((rd_T65 t175 x36_1).f7)) := (blk_cell BK179.out 7).trans rfl; have hfz77_0 := blk_frozen BK179.out 0; have hfz77_1 := blk_frozen BK179.out 1; have hfz77_2 := blk_frozen BK179.out 2; have hfz77_3 := blk_frozen BK179.out 3; have hfz77_4 := blk_frozen BK179.out 4; have hfz77_5 := blk_frozen BK179.out 5; have hfz77_6 := blk_frozen BK179.out 6; have hfz77_7 := blk_frozen BK179.out 7; obtain ⟨Ao78, co78, eo78⟩ := Kd.R_slice HO_11.out; subst eo78) | ((with_reducible refine gate_callee (f := 20) rfl ?_); refine goesL_ (some 53) rfl rfl Try.func20 (by kernel_rfl) rfl #[.slice Ao78 t172.length co78, .int .i64 ((rd_T65 t175 x36_1).f2)] rfl (by (try simp only [List.map_toArray, List.map_cons, List.map_nil]); first | done | rfl | (simp only [List.length_drop, List.length_take]; rfl)) ?_; (with_reducible refine (early_At.calls k1 _ _ t172 ((rd_T65 t175 x36_1).f2) t183 true _ ?side1 ?side2 A19.out).mono ?_); (case side1 => repeat (first | exact (Kd.R_reads' HO_11.out).2.2 | (with_reducible refine Kd.C_alloc ?_ _) | (with_reducible refine Kd.C_drewN ?_ _) | (with_reducible refine Kd.C_drew ?_))); (case side2 => exact (Kd.R_reads' HO_11.out).2.1); rintro e w79 ⟨rfl, hb⟩; refine ⟨_, rfl, ?_⟩; have n0_ := Aside0.mk (Kd.R_below (by (with_reducible repeat (first | apply Kd.R_alloc | apply Kd.R_drewN | apply Kd.R_drew)); exact HO_11.out) hb); have n1_ := Aside0.mk (Kd.R_below (by (with_reducible repeat (first | apply Kd.R_alloc | apply Kd.R_drewN | apply Kd.R_drew)); exact HO_34.out) hb); have n2_ := Aside0.mk (blk_below (g := gb170) (o := .cells #[.slice A0_0 l0_0.length c0_0, .int .i64 a0_1, .int .i64 a0_2, .int .i64 a0_3, .slice A0_4 l0_4.length c0_4] 58 (0, 0)) (by (with_reducible repeat (first | refine blk_drewN ?_ _ | refine blk_drew ?_ | refine blk_alloc ?_ _)); exact BK170.out) hb); have n3_ := Aside0.mk (blk_below (g := gb171) (o := .cells #[.int .i64 x172000_1, .int .i64 x172001_1, .int .i64 x172002_1] 56 (0, 0)) (by (with_reducible repeat (first | refine blk_drewN ?_ _ | refine blk_drew ?_ | refine blk_alloc ?_ _)); exact BK171.out) hb); have n4_ := Aside0.mk (blk_below (g := gb179) (o := .cells #[.int .i64 ((rd_T65 t175 x36_1).f0), .int .i64 ((rd_T65 t175 x36_1).f1), .int .i64 ((rd_T65 t175 x36_1).f2), .int .i64 ((rd_T65 t175 x36_1).f3), .int .i64 ((rd_T65 t175 x36_1).f4), .int .i64 ((rd_T65 t175 x36_1).f5), .int .i64 ((rd_T65 t175 x36_1).f6), .int .i64 ((rd_T65 t175 x36_1).f7)] 65 (0, 0)) (by (with_reducible repeat (first | refine blk_drewN ?_ _ | refine blk_drew ?_ | refine blk_alloc ?_ _)); exact BK179.out) hb); have n5_ := Aside0.mk (below_step (by repeat (first | (with_reducible first | exact HB.out | apply below_alloc | apply pw_below_drewN | apply below_drew1 | refine below_set ?_ GE170.out | refine below_set ?_ GE171.out | refine below_set ?_ GE179.out) | exact HB.out)) hb); clear HO_11; clear HO_34; clear BK170; clear BK171; clear BK179; clear HB; have HO_11 := n0_; have HO_34 := n1_; have BK170 := n2_; have BK171 := n3_; have BK179 := n4_; have HB := n5_; clear n0_ n1_ n2_ n3_ n4_ n5_; (try clear hb); (try clear hb2); (try clear hk); (try clear hi)))
                  go_roundg k1
                  case measure => have := HK1.out; omega
                  case rel => exact ⟨(wrap64 (x36_1 + 1)), (x172000_1), (x172001_1), (x172002_1), (by first | rfl | (simp; done) | (simp [*]; done)), H', ⟨by have := HK1.out; omega⟩, ⟨by (with_reducible repeat (first | apply Kd.R_alloc | apply Kd.R_drewN | apply Kd.R_drew)); exact HO_11.out⟩, ⟨by (with_reducible repeat (first | apply Kd.R_alloc | apply Kd.R_drewN | apply Kd.R_drew)); exact Kd.R_mono HO_34.out (fun _ hk => trivial)⟩, ⟨by (with_reducible repeat (first | refine blk_drewN ?_ _ | refine blk_drew ?_ | refine blk_alloc ?_ _)); exact BK170.out⟩, ⟨by (with_reducible repeat (first | refine blk_drewN ?_ _ | refine blk_drew ?_ | refine blk_alloc ?_ _)); exact BK171.out⟩, ⟨by repeat (first | (with_reducible first | exact HB.out | apply below_alloc | apply pw_below_drewN | apply below_drew1 | refine below_set ?_ GE170.out | refine below_set ?_ GE171.out | refine below_set ?_ GE179.out) | exact HB.out)⟩⟩
              · replace c21 := Bool.eq_false_iff.mpr c21
                subst c21
                have H1 : (least_search_next.l0 k1 a2 t172 t175 (t175.length : Int) (wrap64 (x36_1 + 1)) l0_0 a0_1 a0_2 a0_3 l0_4) = some (r1, r2, r3, r4, r5) := by rw [if_neg (show ¬ (false = true) by decide)] at H; exact H
                clear H
                have H := H1
                clear H1
                have H' := Aside0.mk H
                clear H
                have p178 : 0 ≤ (x36_1 : Int) := of_decide_eq_true (by first | (with_reducible assumption) | assumption)
                have q178 : x36_1 < (t175.length : Int) := of_decide_eq_true (by first | (with_reducible assumption) | assumption)
                obtain ⟨ad178, e178, hx178_0, hx178_1, hx178_2, hx178_3, hx178_4, hx178_5, hx178_6, hx178_7⟩ := at_T65 (Kd.R_reads' HO_34.out).2.2 x36_1 p178 q178
                cases e178
                replace p178 := eq_true p178
                replace q178 := eq_true q178
                go_wp2_with (first | ((with_reducible refine gate_dst (N := 13) rfl ?_); refine box_event ?hg (N := 13) ?hd (cs := #[.int .i64 0, .int .i64 0, .int .i64 0, .int .i64 0, .int .i64 0, .int .i64 0, .int .i64 0, .int .i64 0]) (t := 65) ?hr ?_; (case hd => rfl); (case hg => rfl); (case hr => first | (go_simp; done) | (go_simp; rfl)); intro gb179 hg w80 hbox hb; have n0_ := Aside0.mk (Kd.R_below (by (with_reducible repeat (first | apply Kd.R_alloc | apply Kd.R_drewN | apply Kd.R_drew)); exact HO_11.out) hb); have n1_ := Aside0.mk (Kd.R_below (Kd.R_elderB (by (with_reducible repeat (first | apply Kd.R_alloc | apply Kd.R_drewN | apply Kd.R_drew)); exact HO_34.out) gb179 (Nat.le_of_eq hg.symm)) hb); have n2_ := Aside0.mk (blk_below (g := gb170) (o := .cells #[.slice A0_0 l0_0.length c0_0, .int .i64 a0_1, .int .i64 a0_2, .int .i64 a0_3, .slice A0_4 l0_4.length c0_4] 58 (0, 0)) (by (with_reducible repeat (first | refine blk_drewN ?_ _ | refine blk_drew ?_ | refine blk_alloc ?_ _)); exact BK170.out) hb); have n3_ := Aside0.mk (blk_below (g := gb171) (o := .cells #[.int .i64 x172000_1, .int .i64 x172001_1, .int .i64 x172002_1] 56 (0, 0)) (by (with_reducible repeat (first | refine blk_drewN ?_ _ | refine blk_drew ?_ | refine blk_alloc ?_ _)); exact BK171.out) hb); have n4_ := Aside0.mk (below_step (by repeat (first | (with_reducible first | exact HB.out | apply below_alloc | apply pw_below_drewN | apply below_drew1 | refine below_set ?_ GE170.out | refine below_set ?_ GE171.out) | exact HB.out)) hb); have n5_ := Aside0.mk (hbox); have n6_ := Aside0.mk ((by rw [hg]; exact (below_size (by repeat (first | (with_reducible first | exact HB.out | apply below_alloc | apply pw_below_drewN | apply below_drew1 | refine below_set ?_ GE170.out | refine below_set ?_ GE171.out) | exact HB.out))) : w.heap.size ≤ gb179)); have n7_ := Aside0.mk ((by rw [hg]; exact (below_size (by repeat (first | (with_reducible first | exact HB.out | apply below_alloc | apply pw_below_drewN | apply below_drew1 | refine below_set ?_ GE170.out | refine below_set ?_ GE171.out) | exact HB.out))) : w.heap.size ≤ gb179)); have n8_ := Aside0.mk ((by rw [hg]; exact Nat.ne_of_lt (blk_lt (g := gb170) (o := .cells #[.slice A0_0 l0_0.length c0_0, .int .i64 a0_1, .int .i64 a0_2, .int .i64 a0_3, .slice A0_4 l0_4.length c0_4] 58 (0, 0)) (by (with_reducible repeat (first | refine blk_drewN ?_ _ | refine blk_drew ?_ | refine blk_alloc ?_ _)); exact BK170.out)) : gb170 ≠ gb179)); have n9_ := Aside0.mk ((by rw [hg]; exact Nat.ne_of_gt (blk_lt (g := gb170) (o := .cells #[.slice A0_0 l0_0.length c0_0, .int .i64 a0_1, .int .i64 a0_2, .int .i64 a0_3, .slice A0_4 l0_4.length c0_4] 58 (0, 0)) (by (with_reducible repeat (first | refine blk_drewN ?_ _ | refine blk_drew ?_ | refine blk_alloc ?_ _)); exact BK170.out)) : gb179 ≠ gb170)); have n10_ := Aside0.mk ((by rw [hg]; exact Nat.ne_of_lt (blk_lt (g := gb171) (o := .cells #[.int .i64 x172000_1, .int .i64 x172001_1, .int .i64 x172002_1] 56 (0, 0)) (by (with_reducible repeat (first | refine blk_drewN ?_ _ | refine blk_drew ?_ | refine blk_alloc ?_ _)); exact BK171.out)) : gb171 ≠ gb179)); have n11_ := Aside0.mk ((by rw [hg]; exact Nat.ne_of_gt (blk_lt (g := gb171) (o := .cells #[.int .i64 x172000_1, .int .i64 x172001_1, .int .i64 x172002_1] 56 (0, 0)) (by (with_reducible repeat (first | refine blk_drewN ?_ _ | refine blk_drew ?_ | refine blk_alloc ?_ _)); exact BK171.out)) : gb179 ≠ gb171)); clear HO_11; clear HO_34; clear BK170; clear BK171; clear HB; have HO_11 := n0_; have HO_34 := n1_; have BK170 := n2_; have BK171 := n3_; have HB := n4_; have BK179 := n5_; have GW179 := n6_; have GE179 := n7_; have NB170_179 := n8_; have NB179_170 := n9_; have NB171_179 := n10_; have NB179_171 := n11_; clear n0_ n1_ n2_ n3_ n4_ n5_ n6_ n7_ n8_ n9_ n10_ n11_; clear hb hbox hg; have hnb81 := NB179_170.out; have hnc81 := NB170_179.out; have hnb82 := NB179_171.out; have hnc82 := NB171_179.out; have hcz83_0 : w80.cell? ⟨gb179, 0, none⟩ = some (.int .i64 0) := (blk_cell BK179.out 0).trans rfl; have hcz83_1 : w80.cell? ⟨gb179, 1, none⟩ = some (.int .i64 0) := (blk_cell BK179.out 1).trans rfl; have hcz83_2 : w80.cell? ⟨gb179, 2, none⟩ = some (.int .i64 0) := (blk_cell BK179.out 2).trans rfl; have hcz83_3 : w80.cell? ⟨gb179, 3, none⟩ = some (.int .i64 0) := (blk_cell BK179.out 3).trans rfl; have hcz83_4 : w80.cell? ⟨gb179, 4, none⟩ = some (.int .i64 0) := (blk_cell BK179.out 4).trans rfl; have hcz83_5 : w80.cell? ⟨gb179, 5, none⟩ = some (.int .i64 0) := (blk_cell BK179.out 5).trans rfl; have hcz83_6 : w80.cell? ⟨gb179, 6, none⟩ = some (.int .i64 0) := (blk_cell BK179.out 6).trans rfl; have hcz83_7 : w80.cell? ⟨gb179, 7, none⟩ = some (.int .i64 0) := (blk_cell BK179.out 7).trans rfl; have hfz83_0 := blk_frozen BK179.out 0; have hfz83_1 := blk_frozen BK179.out 1; have hfz83_2 := blk_frozen BK179.out 2; have hfz83_3 := blk_frozen BK179.out 3; have hfz83_4 := blk_frozen BK179.out 4; have hfz83_5 := blk_frozen BK179.out 5; have hfz83_6 := blk_frozen BK179.out 6; have hfz83_7 := blk_frozen BK179.out 7; have hnb84 := NB170_171.out; have hnc84 := NB171_170.out; have hcz85_0 : w80.cell? ⟨gb170, 0, none⟩ = some (.slice A0_0 l0_0.length c0_0) := (blk_cell BK170.out 0).trans rfl; have hcz85_1 : w80.cell? ⟨gb170, 1, none⟩ = some (.int .i64 a0_1) := (blk_cell BK170.out 1).trans rfl; have hcz85_2 : w80.cell? ⟨gb170, 2, none⟩ = some (.int .i64 a0_2) := (blk_cell BK170.out 2).trans rfl; have hcz85_3 : w80.cell? ⟨gb170, 3, none⟩ = some (.int .i64 a0_3) := (blk_cell BK170.out 3).trans rfl; have hcz85_4 : w80.cell? ⟨gb170, 4, none⟩ = some (.slice A0_4 l0_4.length c0_4) := (blk_cell BK170.out 4).trans rfl; have hfz85_0 := blk_frozen BK170.out 0; have hfz85_1 := blk_frozen BK170.out 1; have hfz85_2 := blk_frozen BK170.out 2; have hfz85_3 := blk_frozen BK170.out 3; have hfz85_4 := blk_frozen BK170.out 4) | ((with_reducible refine gate_callee (f := 46) rfl ?_); refine goesL_ (some 45) rfl rfl Try.func46 (by kernel_rfl) rfl #[.agg #[.int .i64 ((rd_T65 t175 x36_1).f0), .int .i64 ((rd_T65 t175 x36_1).f1), .int .i64 ((rd_T65 t175 x36_1).f2), .int .i64 ((rd_T65 t175 x36_1).f3), .int .i64 ((rd_T65 t175 x36_1).f4), .int .i64 ((rd_T65 t175 x36_1).f5), .int .i64 ((rd_T65 t175 x36_1).f6), .int .i64 ((rd_T65 t175 x36_1).f7)], .int .i64 a2, .int .i64 a0_2] rfl (by (try simp only [List.map_toArray, List.map_cons, List.map_nil]); first | done | rfl | (simp only [List.length_drop, List.length_take]; rfl)) ?_; (with_reducible refine (hop_Pass.calls k1 ((rd_T65 t175 x36_1).f0) ((rd_T65 t175 x36_1).f1) ((rd_T65 t175 x36_1).f2) ((rd_T65 t175 x36_1).f3) ((rd_T65 t175 x36_1).f4) ((rd_T65 t175 x36_1).f5) ((rd_T65 t175 x36_1).f6) ((rd_T65 t175 x36_1).f7) a2 a0_2 t180 t181 true _ A18.out).mono ?_); rintro e w86 ⟨rfl, hb⟩; refine ⟨_, rfl, ?_⟩; have n0_ := Aside0.mk (Kd.R_below (by (with_reducible repeat (first | apply Kd.R_alloc | apply Kd.R_drewN | apply Kd.R_drew)); exact (Kd.R_mono (Kd.R_far (p := ⟨gb179, 7, none⟩) (Kd.R_far (p := ⟨gb179, 6, none⟩) (Kd.R_far (p := ⟨gb179, 5, none⟩) (Kd.R_far (p := ⟨gb179, 4, none⟩) (Kd.R_far (p := ⟨gb179, 3, none⟩) (Kd.R_far (p := ⟨gb179, 2, none⟩) (Kd.R_far (p := ⟨gb179, 1, none⟩) (Kd.R_far (p := ⟨gb179, 0, none⟩) (Kd.R_types HO_11.out BK179.out (by decide)) (fun _ hk => hk.2) (.int .i64 ((rd_T65 t175 x36_1).f0))) (fun _ hk => hk.2) (.int .i64 ((rd_T65 t175 x36_1).f1))) (fun _ hk => hk.2) (.int .i64 ((rd_T65 t175 x36_1).f2))) (fun _ hk => hk.2) (.int .i64 ((rd_T65 t175 x36_1).f3))) (fun _ hk => hk.2) (.int .i64 ((rd_T65 t175 x36_1).f4))) (fun _ hk => hk.2) (.int .i64 ((rd_T65 t175 x36_1).f5))) (fun _ hk => hk.2) (.int .i64 ((rd_T65 t175 x36_1).f6))) (fun _ hk => hk.2) (.int .i64 ((rd_T65 t175 x36_1).f7))) (fun _ h_ => h_.1))) hb); have n1_ := Aside0.mk (Kd.R_below (by (with_reducible repeat (first | apply Kd.R_alloc | apply Kd.R_drewN | apply Kd.R_drew)); exact (Kd.R_mono (Kd.R_far (p := ⟨gb179, 7, none⟩) (Kd.R_far (p := ⟨gb179, 6, none⟩) (Kd.R_far (p := ⟨gb179, 5, none⟩) (Kd.R_far (p := ⟨gb179, 4, none⟩) (Kd.R_far (p := ⟨gb179, 3, none⟩) (Kd.R_far (p := ⟨gb179, 2, none⟩) (Kd.R_far (p := ⟨gb179, 1, none⟩) (Kd.R_far (p := ⟨gb179, 0, none⟩) (Kd.R_mono HO_34.out (fun k_ hk => (⟨hk, hk.2⟩ : _ ∧ k_ ≠ gb179))) (fun _ hk => hk.2) (.int .i64 ((rd_T65 t175 x36_1).f0))) (fun _ hk => hk.2) (.int .i64 ((rd_T65 t175 x36_1).f1))) (fun _ hk => hk.2) (.int .i64 ((rd_T65 t175 x36_1).f2))) (fun _ hk => hk.2) (.int .i64 ((rd_T65 t175 x36_1).f3))) (fun _ hk => hk.2) (.int .i64 ((rd_T65 t175 x36_1).f4))) (fun _ hk => hk.2) (.int .i64 ((rd_T65 t175 x36_1).f5))) (fun _ hk => hk.2) (.int .i64 ((rd_T65 t175 x36_1).f6))) (fun _ hk => hk.2) (.int .i64 ((rd_T65 t175 x36_1).f7))) (fun _ h_ => h_.1))) hb); have n2_ := Aside0.mk (blk_below (g := gb170) (o := .cells #[.slice A0_0 l0_0.length c0_0, .int .i64 a0_1, .int .i64 a0_2, .int .i64 a0_3, .slice A0_4 l0_4.length c0_4] 58 (0, 0)) (by (with_reducible repeat (first | refine blk_drewN ?_ _ | refine blk_drew ?_ | refine blk_alloc ?_ _)); refine blk_far ?_ NB170_179.out _; (with_reducible repeat (first | refine blk_drewN ?_ _ | refine blk_drew ?_ | refine blk_alloc ?_ _)); refine blk_far ?_ NB170_179.out _; (with_reducible repeat (first | refine blk_drewN ?_ _ | refine blk_drew ?_ | refine blk_alloc ?_ _)); refine blk_far ?_ NB170_179.out _; (with_reducible repeat (first | refine blk_drewN ?_ _ | refine blk_drew ?_ | refine blk_alloc ?_ _)); refine blk_far ?_ NB170_179.out _; (with_reducible repeat (first | refine blk_drewN ?_ _ | refine blk_drew ?_ | refine blk_alloc ?_ _)); refine blk_far ?_ NB170_179.out _; (with_reducible repeat (first | refine blk_drewN ?_ _ | refine blk_drew ?_ | refine blk_alloc ?_ _)); refine blk_far ?_ NB170_179.out _; (with_reducible repeat (first | refine blk_drewN ?_ _ | refine blk_drew ?_ | refine blk_alloc ?_ _)); refine blk_far ?_ NB170_179.out _; (with_reducible repeat (first | refine blk_drewN ?_ _ | refine blk_drew ?_ | refine blk_alloc ?_ _)); refine blk_far ?_ NB170_179.out _; (with_reducible repeat (first | refine blk_drewN ?_ _ | refine blk_drew ?_ | refine blk_alloc ?_ _)); exact BK170.out) hb); have n3_ := Aside0.mk (blk_below (g := gb171) (o := .cells #[.int .i64 x172000_1, .int .i64 x172001_1, .int .i64 x172002_1] 56 (0, 0)) (by (with_reducible repeat (first | refine blk_drewN ?_ _ | refine blk_drew ?_ | refine blk_alloc ?_ _)); refine blk_far ?_ NB171_179.out _; (with_reducible repeat (first | refine blk_drewN ?_ _ | refine blk_drew ?_ | refine blk_alloc ?_ _)); refine blk_far ?_ NB171_179.out _; (with_reducible repeat (first | refine blk_drewN ?_ _ | refine blk_drew ?_ | refine blk_alloc ?_ _)); refine blk_far ?_ NB171_179.out _; (with_reducible repeat (first | refine blk_drewN ?_ _ | refine blk_drew ?_ | refine blk_alloc ?_ _)); refine blk_far ?_ NB171_179.out _; (with_reducible repeat (first | refine blk_drewN ?_ _ | refine blk_drew ?_ | refine blk_alloc ?_ _)); refine blk_far ?_ NB171_179.out _; (with_reducible repeat (first | refine blk_drewN ?_ _ | refine blk_drew ?_ | refine blk_alloc ?_ _)); refine blk_far ?_ NB171_179.out _; (with_reducible repeat (first | refine blk_drewN ?_ _ | refine blk_drew ?_ | refine blk_alloc ?_ _)); refine blk_far ?_ NB171_179.out _; (with_reducible repeat (first | refine blk_drewN ?_ _ | refine blk_drew ?_ | refine blk_alloc ?_ _)); refine blk_far ?_ NB171_179.out _; (with_reducible repeat (first | refine blk_drewN ?_ _ | refine blk_drew ?_ | refine blk_alloc ?_ _)); exact BK171.out) hb); have n4_ := Aside0.mk (blk_below (g := gb179) (o := .cells #[.int .i64 ((rd_T65 t175 x36_1).f0), .int .i64 ((rd_T65 t175 x36_1).f1), .int .i64 ((rd_T65 t175 x36_1).f2), .int .i64 ((rd_T65 t175 x36_1).f3), .int .i64 ((rd_T65 t175 x36_1).f4), .int .i64 ((rd_T65 t175 x36_1).f5), .int .i64 ((rd_T65 t175 x36_1).f6), .int .i64 ((rd_T65 t175 x36_1).f7)] 65 (0, 0)) (by (with_reducible repeat (first | refine blk_drewN ?_ _ | refine blk_drew ?_ | refine blk_alloc ?_ _)); refine blk_put (cs := #[.int .i64 ((rd_T65 t175 x36_1).f0), .int .i64 ((rd_T65 t175 x36_1).f1), .int .i64 ((rd_T65 t175 x36_1).f2), .int .i64 ((rd_T65 t175 x36_1).f3), .int .i64 ((rd_T65 t175 x36_1).f4), .int .i64 ((rd_T65 t175 x36_1).f5), .int .i64 ((rd_T65 t175 x36_1).f6), .int .i64 0]) ?_ 7 _ rfl; (with_reducible repeat (first | refine blk_drewN ?_ _ | refine blk_drew ?_ | refine blk_alloc ?_ _)); refine blk_put (cs := #[.int .i64 ((rd_T65 t175 x36_1).f0), .int .i64 ((rd_T65 t175 x36_1).f1), .int .i64 ((rd_T65 t175 x36_1).f2), .int .i64 ((rd_T65 t175 x36_1).f3), .int .i64 ((rd_T65 t175 x36_1).f4), .int .i64 ((rd_T65 t175 x36_1).f5), .int .i64 0, .int .i64 0]) ?_ 6 _ rfl; (with_reducible repeat (first | refine blk_drewN ?_ _ | refine blk_drew ?_ | refine blk_alloc ?_ _)); refine blk_put (cs := #[.int .i64 ((rd_T65 t175 x36_1).f0), .int .i64 ((rd_T65 t175 x36_1).f1), .int .i64 ((rd_T65 t175 x36_1).f2), .int .i64 ((rd_T65 t175 x36_1).f3), .int .i64 ((rd_T65 t175 x36_1).f4), .int .i64 0, .int .i64 0, .int .i64 0]) ?_ 5 _ rfl; (with_reducible repeat (first | refine blk_drewN ?_ _ | refine blk_drew ?_ | refine blk_alloc ?_ _)); refine blk_put (cs := #[.int .i64 ((rd_T65 t175 x36_1).f0), .int .i64 ((rd_T65 t175 x36_1).f1), .int .i64 ((rd_T65 t175 x36_1).f2), .int .i64 ((rd_T65 t175 x36_1).f3), .int .i64 0, .int .i64 0, .int .i64 0, .int .i64 0]) ?_ 4 _ rfl; (with_reducible repeat (first | refine blk_drewN ?_ _ | refine blk_drew ?_ | refine blk_alloc ?_ _)); refine blk_put (cs := #[.int .i64 ((rd_T65 t175 x36_1).f0), .int .i64 ((rd_T65 t175 x36_1).f1), .int .i64 ((rd_T65 t175 x36_1).f2), .int .i64 0, .int .i64 0, .int .i64 0, .int .i64 0, .int .i64 0]) ?_ 3 _ rfl; (with_reducible repeat (first | refine blk_drewN ?_ _ | refine blk_drew ?_ | refine blk_alloc ?_ _)); refine blk_put (cs := #[.int .i64 ((rd_T65 t175 x36_1).f0), .int .i64 ((rd_T65 t175 x36_1).f1), .int .i64 0, .int .i64 0, .int .i64 0, .int .i64 0, .int .i64 0, .int .i64 0]) ?_ 2 _ rfl; (with_reducible repeat (first | refine blk_drewN ?_ _ | refine blk_drew ?_ | refine blk_alloc ?_ _)); refine blk_put (cs := #[.int .i64 ((rd_T65 t175 x36_1).f0), .int .i64 0, .int .i64 0, .int .i64 0, .int .i64 0, .int .i64 0, .int .i64 0, .int .i64 0]) ?_ 1 _ rfl; (with_reducible repeat (first | refine blk_drewN ?_ _ | refine blk_drew ?_ | refine blk_alloc ?_ _)); refine blk_put (cs := #[.int .i64 0, .int .i64 0, .int .i64 0, .int .i64 0, .int .i64 0, .int .i64 0, .int .i64 0, .int .i64 0]) ?_ 0 _ rfl; (with_reducible repeat (first | refine blk_drewN ?_ _ | refine blk_drew ?_ | refine blk_alloc ?_ _)); exact BK179.out) hb); have n5_ := Aside0.mk (below_step (by repeat (first | (with_reducible first | exact HB.out | apply below_alloc | apply pw_below_drewN | apply below_drew1 | refine below_set ?_ GE170.out | refine below_set ?_ GE171.out | refine below_set ?_ GE179.out) | exact HB.out)) hb); clear HO_11; clear HO_34; clear BK170; clear BK171; clear BK179; clear HB; have HO_11 := n0_; have HO_34 := n1_; have BK170 := n2_; have BK171 := n3_; have BK179 := n4_; have HB := n5_; clear n0_ n1_ n2_ n3_ n4_ n5_; (try clear hb); (try clear hb2); (try clear hk); (try clear hi); have hcz87_0 : w86.cell? ⟨gb179, 0, none⟩ = some (.int .i64 ((rd_T65 t175 x36_1).f0)) := (blk_cell BK179.out 0).trans rfl; have hcz87_1 : w86.cell? ⟨gb179, 1, none⟩ = some (.int .i64 ((rd_T65 t175 x36_1).f1)) := (blk_cell BK179.out 1).trans rfl; have hcz87_2 : w86.cell? ⟨gb179, 2, none⟩ = some (.int .i64 ((rd_T65 t175 x36_1).f2)) := (blk_cell BK179.out 2).trans rfl; have hcz87_3 : w86.cell? ⟨gb179, 3, none⟩ = some (.int .i64 ((rd_T65 t175 x36_1).f3)) := (blk_cell BK179.out 3).trans rfl; have hcz87_4 : w86.cell? ⟨gb179, 4, none⟩ = some (.int .i64 ((rd_T65 t175 x36_1).f4)) := (blk_cell BK179.out 4).trans rfl; have hcz87_5 : w86.cell? ⟨gb179, 5, none⟩ = some (.int .i64 ((rd_T65 t175 x36_1).f5)) := (blk_cell BK179.out 5).trans rfl; have hcz87_6 : w86.cell? ⟨gb179, 6, none⟩ = some (.int .i64 ((rd_T65 t175 x36_1).f6)) := (blk_cell BK179.out 6).trans rfl; have hcz87_7 : w86.cell? ⟨gb179, 7, none⟩ = some (.int .i64 ((rd_T65 t175 x36_1).f7)) := (blk_cell BK179.out 7).trans rfl; have hfz87_0 := blk_frozen BK179.out 0; have hfz87_1 := blk_frozen BK179.out 1; have hfz87_2 := blk_frozen BK179.out 2; have hfz87_3 := blk_frozen BK179.out 3; have hfz87_4 := blk_frozen BK179.out 4; have hfz87_5 := blk_frozen BK179.out 5; have hfz87_6 := blk_frozen BK179.out 6; have hfz87_7 := blk_frozen BK179.out 7; obtain ⟨Ao88, co88, eo88⟩ := Kd.R_slice HO_11.out; subst eo88) | ((with_reducible refine gate_callee (f := 20) rfl ?_); refine goesL_ (some 53) rfl rfl Try.func20 (by kernel_rfl) rfl #[.slice Ao88 t172.length co88, .int .i64 ((rd_T65 t175 x36_1).f2)] rfl (by (try simp only [List.map_toArray, List.map_cons, List.map_nil]); first | done | rfl | (simp only [List.length_drop, List.length_take]; rfl)) ?_; (with_reducible refine (early_At.calls k1 _ _ t172 ((rd_T65 t175 x36_1).f2) t183 false _ ?side1 ?side2 A19.out).mono ?_); (case side1 => repeat (first | exact (Kd.R_reads' HO_11.out).2.2 | (with_reducible refine Kd.C_alloc ?_ _) | (with_reducible refine Kd.C_drewN ?_ _) | (with_reducible refine Kd.C_drew ?_))); (case side2 => exact (Kd.R_reads' HO_11.out).2.1); rintro e w89 ⟨rfl, hb⟩; refine ⟨_, rfl, ?_⟩; have n0_ := Aside0.mk (Kd.R_below (by (with_reducible repeat (first | apply Kd.R_alloc | apply Kd.R_drewN | apply Kd.R_drew)); exact HO_11.out) hb); have n1_ := Aside0.mk (Kd.R_below (by (with_reducible repeat (first | apply Kd.R_alloc | apply Kd.R_drewN | apply Kd.R_drew)); exact HO_34.out) hb); have n2_ := Aside0.mk (blk_below (g := gb170) (o := .cells #[.slice A0_0 l0_0.length c0_0, .int .i64 a0_1, .int .i64 a0_2, .int .i64 a0_3, .slice A0_4 l0_4.length c0_4] 58 (0, 0)) (by (with_reducible repeat (first | refine blk_drewN ?_ _ | refine blk_drew ?_ | refine blk_alloc ?_ _)); exact BK170.out) hb); have n3_ := Aside0.mk (blk_below (g := gb171) (o := .cells #[.int .i64 x172000_1, .int .i64 x172001_1, .int .i64 x172002_1] 56 (0, 0)) (by (with_reducible repeat (first | refine blk_drewN ?_ _ | refine blk_drew ?_ | refine blk_alloc ?_ _)); exact BK171.out) hb); have n4_ := Aside0.mk (blk_below (g := gb179) (o := .cells #[.int .i64 ((rd_T65 t175 x36_1).f0), .int .i64 ((rd_T65 t175 x36_1).f1), .int .i64 ((rd_T65 t175 x36_1).f2), .int .i64 ((rd_T65 t175 x36_1).f3), .int .i64 ((rd_T65 t175 x36_1).f4), .int .i64 ((rd_T65 t175 x36_1).f5), .int .i64 ((rd_T65 t175 x36_1).f6), .int .i64 ((rd_T65 t175 x36_1).f7)] 65 (0, 0)) (by (with_reducible repeat (first | refine blk_drewN ?_ _ | refine blk_drew ?_ | refine blk_alloc ?_ _)); exact BK179.out) hb); have n5_ := Aside0.mk (below_step (by repeat (first | (with_reducible first | exact HB.out | apply below_alloc | apply pw_below_drewN | apply below_drew1 | refine below_set ?_ GE170.out | refine below_set ?_ GE171.out | refine below_set ?_ GE179.out) | exact HB.out)) hb); clear HO_11; clear HO_34; clear BK170; clear BK171; clear BK179; clear HB; have HO_11 := n0_; have HO_34 := n1_; have BK170 := n2_; have BK171 := n3_; have BK179 := n4_; have HB := n5_; clear n0_ n1_ n2_ n3_ n4_ n5_; (try clear hb); (try clear hb2); (try clear hk); (try clear hi)))
                go_roundg k1
                case measure => have := HK1.out; omega
                case rel => exact ⟨(wrap64 (x36_1 + 1)), (x172000_1), (x172001_1), (x172002_1), (by first | rfl | (simp; done) | (simp [*]; done)), H', ⟨by have := HK1.out; omega⟩, ⟨by (with_reducible repeat (first | apply Kd.R_alloc | apply Kd.R_drewN | apply Kd.R_drew)); exact HO_11.out⟩, ⟨by (with_reducible repeat (first | apply Kd.R_alloc | apply Kd.R_drewN | apply Kd.R_drew)); exact Kd.R_mono HO_34.out (fun _ hk => trivial)⟩, ⟨by (with_reducible repeat (first | refine blk_drewN ?_ _ | refine blk_drew ?_ | refine blk_alloc ?_ _)); exact BK170.out⟩, ⟨by (with_reducible repeat (first | refine blk_drewN ?_ _ | refine blk_drew ?_ | refine blk_alloc ?_ _)); exact BK171.out⟩, ⟨by repeat (first | (with_reducible first | exact HB.out | apply below_alloc | apply pw_below_drewN | apply below_drew1 | refine below_set ?_ GE170.out | refine below_set ?_ GE171.out | refine below_set ?_ GE179.out) | exact HB.out)⟩⟩
            · replace c20 := Bool.eq_false_iff.mpr c20
              subst c20
              have H1 : (least_search_next.l0 k1 a2 t172 t175 (t175.length : Int) (wrap64 (x36_1 + 1)) l0_0 a0_1 a0_2 a0_3 l0_4) = some (r1, r2, r3, r4, r5) := by rw [if_neg (show ¬ (false = true) by decide)] at H; exact H
              clear H
              have H := H1
              clear H1
              have H' := Aside0.mk H
              clear H
              have p178 : 0 ≤ (x36_1 : Int) := of_decide_eq_true (by first | (with_reducible assumption) | assumption)
              have q178 : x36_1 < (t175.length : Int) := of_decide_eq_true (by first | (with_reducible assumption) | assumption)
              obtain ⟨ad178, e178, hx178_0, hx178_1, hx178_2, hx178_3, hx178_4, hx178_5, hx178_6, hx178_7⟩ := at_T65 (Kd.R_reads' HO_34.out).2.2 x36_1 p178 q178
              cases e178
              replace p178 := eq_true p178
              replace q178 := eq_true q178
              go_wp2_with (first | ((with_reducible refine gate_dst (N := 13) rfl ?_); refine box_event ?hg (N := 13) ?hd (cs := #[.int .i64 0, .int .i64 0, .int .i64 0, .int .i64 0, .int .i64 0, .int .i64 0, .int .i64 0, .int .i64 0]) (t := 65) ?hr ?_; (case hd => rfl); (case hg => rfl); (case hr => first | (go_simp; done) | (go_simp; rfl)); intro gb179 hg w90 hbox hb; have n0_ := Aside0.mk (Kd.R_below (by (with_reducible repeat (first | apply Kd.R_alloc | apply Kd.R_drewN | apply Kd.R_drew)); exact HO_11.out) hb); have n1_ := Aside0.mk (Kd.R_below (Kd.R_elderB (by (with_reducible repeat (first | apply Kd.R_alloc | apply Kd.R_drewN | apply Kd.R_drew)); exact HO_34.out) gb179 (Nat.le_of_eq hg.symm)) hb); have n2_ := Aside0.mk (blk_below (g := gb170) (o := .cells #[.slice A0_0 l0_0.length c0_0, .int .i64 a0_1, .int .i64 a0_2, .int .i64 a0_3, .slice A0_4 l0_4.length c0_4] 58 (0, 0)) (by (with_reducible repeat (first | refine blk_drewN ?_ _ | refine blk_drew ?_ | refine blk_alloc ?_ _)); exact BK170.out) hb); have n3_ := Aside0.mk (blk_below (g := gb171) (o := .cells #[.int .i64 x172000_1, .int .i64 x172001_1, .int .i64 x172002_1] 56 (0, 0)) (by (with_reducible repeat (first | refine blk_drewN ?_ _ | refine blk_drew ?_ | refine blk_alloc ?_ _)); exact BK171.out) hb); have n4_ := Aside0.mk (below_step (by repeat (first | (with_reducible first | exact HB.out | apply below_alloc | apply pw_below_drewN | apply below_drew1 | refine below_set ?_ GE170.out | refine below_set ?_ GE171.out) | exact HB.out)) hb); have n5_ := Aside0.mk (hbox); have n6_ := Aside0.mk ((by rw [hg]; exact (below_size (by repeat (first | (with_reducible first | exact HB.out | apply below_alloc | apply pw_below_drewN | apply below_drew1 | refine below_set ?_ GE170.out | refine below_set ?_ GE171.out) | exact HB.out))) : w.heap.size ≤ gb179)); have n7_ := Aside0.mk ((by rw [hg]; exact (below_size (by repeat (first | (with_reducible first | exact HB.out | apply below_alloc | apply pw_below_drewN | apply below_drew1 | refine below_set ?_ GE170.out | refine below_set ?_ GE171.out) | exact HB.out))) : w.heap.size ≤ gb179)); have n8_ := Aside0.mk ((by rw [hg]; exact Nat.ne_of_lt (blk_lt (g := gb170) (o := .cells #[.slice A0_0 l0_0.length c0_0, .int .i64 a0_1, .int .i64 a0_2, .int .i64 a0_3, .slice A0_4 l0_4.length c0_4] 58 (0, 0)) (by (with_reducible repeat (first | refine blk_drewN ?_ _ | refine blk_drew ?_ | refine blk_alloc ?_ _)); exact BK170.out)) : gb170 ≠ gb179)); have n9_ := Aside0.mk ((by rw [hg]; exact Nat.ne_of_gt (blk_lt (g := gb170) (o := .cells #[.slice A0_0 l0_0.length c0_0, .int .i64 a0_1, .int .i64 a0_2, .int .i64 a0_3, .slice A0_4 l0_4.length c0_4] 58 (0, 0)) (by (with_reducible repeat (first | refine blk_drewN ?_ _ | refine blk_drew ?_ | refine blk_alloc ?_ _)); exact BK170.out)) : gb179 ≠ gb170)); have n10_ := Aside0.mk ((by rw [hg]; exact Nat.ne_of_lt (blk_lt (g := gb171) (o := .cells #[.int .i64 x172000_1, .int .i64 x172001_1, .int .i64 x172002_1] 56 (0, 0)) (by (with_reducible repeat (first | refine blk_drewN ?_ _ | refine blk_drew ?_ | refine blk_alloc ?_ _)); exact BK171.out)) : gb171 ≠ gb179)); have n11_ := Aside0.mk ((by rw [hg]; exact Nat.ne_of_gt (blk_lt (g := gb171) (o := .cells #[.int .i64 x172000_1, .int .i64 x172001_1, .int .i64 x172002_1] 56 (0, 0)) (by (with_reducible repeat (first | refine blk_drewN ?_ _ | refine blk_drew ?_ | refine blk_alloc ?_ _)); exact BK171.out)) : gb179 ≠ gb171)); clear HO_11; clear HO_34; clear BK170; clear BK171; clear HB; have HO_11 := n0_; have HO_34 := n1_; have BK170 := n2_; have BK171 := n3_; have HB := n4_; have BK179 := n5_; have GW179 := n6_; have GE179 := n7_; have NB170_179 := n8_; have NB179_170 := n9_; have NB171_179 := n10_; have NB179_171 := n11_; clear n0_ n1_ n2_ n3_ n4_ n5_ n6_ n7_ n8_ n9_ n10_ n11_; clear hb hbox hg; have hnb91 := NB179_170.out; have hnc91 := NB170_179.out; have hnb92 := NB179_171.out; have hnc92 := NB171_179.out; have hcz93_0 : w90.cell? ⟨gb179, 0, none⟩ = some (.int .i64 0) := (blk_cell BK179.out 0).trans rfl; have hcz93_1 : w90.cell? ⟨gb179, 1, none⟩ = some (.int .i64 0) := (blk_cell BK179.out 1).trans rfl; have hcz93_2 : w90.cell? ⟨gb179, 2, none⟩ = some (.int .i64 0) := (blk_cell BK179.out 2).trans rfl; have hcz93_3 : w90.cell? ⟨gb179, 3, none⟩ = some (.int .i64 0) := (blk_cell BK179.out 3).trans rfl; have hcz93_4 : w90.cell? ⟨gb179, 4, none⟩ = some (.int .i64 0) := (blk_cell BK179.out 4).trans rfl; have hcz93_5 : w90.cell? ⟨gb179, 5, none⟩ = some (.int .i64 0) := (blk_cell BK179.out 5).trans rfl; have hcz93_6 : w90.cell? ⟨gb179, 6, none⟩ = some (.int .i64 0) := (blk_cell BK179.out 6).trans rfl; have hcz93_7 : w90.cell? ⟨gb179, 7, none⟩ = some (.int .i64 0) := (blk_cell BK179.out 7).trans rfl; have hfz93_0 := blk_frozen BK179.out 0; have hfz93_1 := blk_frozen BK179.out 1; have hfz93_2 := blk_frozen BK179.out 2; have hfz93_3 := blk_frozen BK179.out 3; have hfz93_4 := blk_frozen BK179.out 4; have hfz93_5 := blk_frozen BK179.out 5; have hfz93_6 := blk_frozen BK179.out 6; have hfz93_7 := blk_frozen BK179.out 7; have hnb94 := NB170_171.out; have hnc94 := NB171_170.out; have hcz95_0 : w90.cell? ⟨gb170, 0, none⟩ = some (.slice A0_0 l0_0.length c0_0) := (blk_cell BK170.out 0).trans rfl; have hcz95_1 : w90.cell? ⟨gb170, 1, none⟩ = some (.int .i64 a0_1) := (blk_cell BK170.out 1).trans rfl; have hcz95_2 : w90.cell? ⟨gb170, 2, none⟩ = some (.int .i64 a0_2) := (blk_cell BK170.out 2).trans rfl; have hcz95_3 : w90.cell? ⟨gb170, 3, none⟩ = some (.int .i64 a0_3) := (blk_cell BK170.out 3).trans rfl; have hcz95_4 : w90.cell? ⟨gb170, 4, none⟩ = some (.slice A0_4 l0_4.length c0_4) := (blk_cell BK170.out 4).trans rfl; have hfz95_0 := blk_frozen BK170.out 0; have hfz95_1 := blk_frozen BK170.out 1; have hfz95_2 := blk_frozen BK170.out 2; have hfz95_3 := blk_frozen BK170.out 3; have hfz95_4 := blk_frozen BK170.out 4) | ((with_reducible refine gate_callee (f := 46) rfl ?_); refine goesL_ (some 45) rfl rfl Try.func46 (by kernel_rfl) rfl #[.agg #[.int .i64 ((rd_T65 t175 x36_1).f0), .int .i64 ((rd_T65 t175 x36_1).f1), .int .i64 ((rd_T65 t175 x36_1).f2), .int .i64 ((rd_T65 t175 x36_1).f3), .int .i64 ((rd_T65 t175 x36_1).f4), .int .i64 ((rd_T65 t175 x36_1).f5), .int .i64 ((rd_T65 t175 x36_1).f6), .int .i64 ((rd_T65 t175 x36_1).f7)], .int .i64 a2, .int .i64 a0_2] rfl (by (try simp only [List.map_toArray, List.map_cons, List.map_nil]); first | done | rfl | (simp only [List.length_drop, List.length_take]; rfl)) ?_; (with_reducible refine (hop_Pass.calls k1 ((rd_T65 t175 x36_1).f0) ((rd_T65 t175 x36_1).f1) ((rd_T65 t175 x36_1).f2) ((rd_T65 t175 x36_1).f3) ((rd_T65 t175 x36_1).f4) ((rd_T65 t175 x36_1).f5) ((rd_T65 t175 x36_1).f6) ((rd_T65 t175 x36_1).f7) a2 a0_2 t180 t181 false _ A18.out).mono ?_); rintro e w96 ⟨rfl, hb⟩; refine ⟨_, rfl, ?_⟩; have n0_ := Aside0.mk (Kd.R_below (by (with_reducible repeat (first | apply Kd.R_alloc | apply Kd.R_drewN | apply Kd.R_drew)); exact (Kd.R_mono (Kd.R_far (p := ⟨gb179, 7, none⟩) (Kd.R_far (p := ⟨gb179, 6, none⟩) (Kd.R_far (p := ⟨gb179, 5, none⟩) (Kd.R_far (p := ⟨gb179, 4, none⟩) (Kd.R_far (p := ⟨gb179, 3, none⟩) (Kd.R_far (p := ⟨gb179, 2, none⟩) (Kd.R_far (p := ⟨gb179, 1, none⟩) (Kd.R_far (p := ⟨gb179, 0, none⟩) (Kd.R_types HO_11.out BK179.out (by decide)) (fun _ hk => hk.2) (.int .i64 ((rd_T65 t175 x36_1).f0))) (fun _ hk => hk.2) (.int .i64 ((rd_T65 t175 x36_1).f1))) (fun _ hk => hk.2) (.int .i64 ((rd_T65 t175 x36_1).f2))) (fun _ hk => hk.2) (.int .i64 ((rd_T65 t175 x36_1).f3))) (fun _ hk => hk.2) (.int .i64 ((rd_T65 t175 x36_1).f4))) (fun _ hk => hk.2) (.int .i64 ((rd_T65 t175 x36_1).f5))) (fun _ hk => hk.2) (.int .i64 ((rd_T65 t175 x36_1).f6))) (fun _ hk => hk.2) (.int .i64 ((rd_T65 t175 x36_1).f7))) (fun _ h_ => h_.1))) hb); have n1_ := Aside0.mk (Kd.R_below (by (with_reducible repeat (first | apply Kd.R_alloc | apply Kd.R_drewN | apply Kd.R_drew)); exact (Kd.R_mono (Kd.R_far (p := ⟨gb179, 7, none⟩) (Kd.R_far (p := ⟨gb179, 6, none⟩) (Kd.R_far (p := ⟨gb179, 5, none⟩) (Kd.R_far (p := ⟨gb179, 4, none⟩) (Kd.R_far (p := ⟨gb179, 3, none⟩) (Kd.R_far (p := ⟨gb179, 2, none⟩) (Kd.R_far (p := ⟨gb179, 1, none⟩) (Kd.R_far (p := ⟨gb179, 0, none⟩) (Kd.R_mono HO_34.out (fun k_ hk => (⟨hk, hk.2⟩ : _ ∧ k_ ≠ gb179))) (fun _ hk => hk.2) (.int .i64 ((rd_T65 t175 x36_1).f0))) (fun _ hk => hk.2) (.int .i64 ((rd_T65 t175 x36_1).f1))) (fun _ hk => hk.2) (.int .i64 ((rd_T65 t175 x36_1).f2))) (fun _ hk => hk.2) (.int .i64 ((rd_T65 t175 x36_1).f3))) (fun _ hk => hk.2) (.int .i64 ((rd_T65 t175 x36_1).f4))) (fun _ hk => hk.2) (.int .i64 ((rd_T65 t175 x36_1).f5))) (fun _ hk => hk.2) (.int .i64 ((rd_T65 t175 x36_1).f6))) (fun _ hk => hk.2) (.int .i64 ((rd_T65 t175 x36_1).f7))) (fun _ h_ => h_.1))) hb); have n2_ := Aside0.mk (blk_below (g := gb170) (o := .cells #[.slice A0_0 l0_0.length c0_0, .int .i64 a0_1, .int .i64 a0_2, .int .i64 a0_3, .slice A0_4 l0_4.length c0_4] 58 (0, 0)) (by (with_reducible repeat (first | refine blk_drewN ?_ _ | refine blk_drew ?_ | refine blk_alloc ?_ _)); refine blk_far ?_ NB170_179.out _; (with_reducible repeat (first | refine blk_drewN ?_ _ | refine blk_drew ?_ | refine blk_alloc ?_ _)); refine blk_far ?_ NB170_179.out _; (with_reducible repeat (first | refine blk_drewN ?_ _ | refine blk_drew ?_ | refine blk_alloc ?_ _)); refine blk_far ?_ NB170_179.out _; (with_reducible repeat (first | refine blk_drewN ?_ _ | refine blk_drew ?_ | refine blk_alloc ?_ _)); refine blk_far ?_ NB170_179.out _; (with_reducible repeat (first | refine blk_drewN ?_ _ | refine blk_drew ?_ | refine blk_alloc ?_ _)); refine blk_far ?_ NB170_179.out _; (with_reducible repeat (first | refine blk_drewN ?_ _ | refine blk_drew ?_ | refine blk_alloc ?_ _)); refine blk_far ?_ NB170_179.out _; (with_reducible repeat (first | refine blk_drewN ?_ _ | refine blk_drew ?_ | refine blk_alloc ?_ _)); refine blk_far ?_ NB170_179.out _; (with_reducible repeat (first | refine blk_drewN ?_ _ | refine blk_drew ?_ | refine blk_alloc ?_ _)); refine blk_far ?_ NB170_179.out _; (with_reducible repeat (first | refine blk_drewN ?_ _ | refine blk_drew ?_ | refine blk_alloc ?_ _)); exact BK170.out) hb); have n3_ := Aside0.mk (blk_below (g := gb171) (o := .cells #[.int .i64 x172000_1, .int .i64 x172001_1, .int .i64 x172002_1] 56 (0, 0)) (by (with_reducible repeat (first | refine blk_drewN ?_ _ | refine blk_drew ?_ | refine blk_alloc ?_ _)); refine blk_far ?_ NB171_179.out _; (with_reducible repeat (first | refine blk_drewN ?_ _ | refine blk_drew ?_ | refine blk_alloc ?_ _)); refine blk_far ?_ NB171_179.out _; (with_reducible repeat (first | refine blk_drewN ?_ _ | refine blk_drew ?_ | refine blk_alloc ?_ _)); refine blk_far ?_ NB171_179.out _; (with_reducible repeat (first | refine blk_drewN ?_ _ | refine blk_drew ?_ | refine blk_alloc ?_ _)); refine blk_far ?_ NB171_179.out _; (with_reducible repeat (first | refine blk_drewN ?_ _ | refine blk_drew ?_ | refine blk_alloc ?_ _)); refine blk_far ?_ NB171_179.out _; (with_reducible repeat (first | refine blk_drewN ?_ _ | refine blk_drew ?_ | refine blk_alloc ?_ _)); refine blk_far ?_ NB171_179.out _; (with_reducible repeat (first | refine blk_drewN ?_ _ | refine blk_drew ?_ | refine blk_alloc ?_ _)); refine blk_far ?_ NB171_179.out _; (with_reducible repeat (first | refine blk_drewN ?_ _ | refine blk_drew ?_ | refine blk_alloc ?_ _)); refine blk_far ?_ NB171_179.out _; (with_reducible repeat (first | refine blk_drewN ?_ _ | refine blk_drew ?_ | refine blk_alloc ?_ _)); exact BK171.out) hb); have n4_ := Aside0.mk (blk_below (g := gb179) (o := .cells #[.int .i64 ((rd_T65 t175 x36_1).f0), .int .i64 ((rd_T65 t175 x36_1).f1), .int .i64 ((rd_T65 t175 x36_1).f2), .int .i64 ((rd_T65 t175 x36_1).f3), .int .i64 ((rd_T65 t175 x36_1).f4), .int .i64 ((rd_T65 t175 x36_1).f5), .int .i64 ((rd_T65 t175 x36_1).f6), .int .i64 ((rd_T65 t175 x36_1).f7)] 65 (0, 0)) (by (with_reducible repeat (first | refine blk_drewN ?_ _ | refine blk_drew ?_ | refine blk_alloc ?_ _)); refine blk_put (cs := #[.int .i64 ((rd_T65 t175 x36_1).f0), .int .i64 ((rd_T65 t175 x36_1).f1), .int .i64 ((rd_T65 t175 x36_1).f2), .int .i64 ((rd_T65 t175 x36_1).f3), .int .i64 ((rd_T65 t175 x36_1).f4), .int .i64 ((rd_T65 t175 x36_1).f5), .int .i64 ((rd_T65 t175 x36_1).f6), .int .i64 0]) ?_ 7 _ rfl; (with_reducible repeat (first | refine blk_drewN ?_ _ | refine blk_drew ?_ | refine blk_alloc ?_ _)); refine blk_put (cs := #[.int .i64 ((rd_T65 t175 x36_1).f0), .int .i64 ((rd_T65 t175 x36_1).f1), .int .i64 ((rd_T65 t175 x36_1).f2), .int .i64 ((rd_T65 t175 x36_1).f3), .int .i64 ((rd_T65 t175 x36_1).f4), .int .i64 ((rd_T65 t175 x36_1).f5), .int .i64 0, .int .i64 0]) ?_ 6 _ rfl; (with_reducible repeat (first | refine blk_drewN ?_ _ | refine blk_drew ?_ | refine blk_alloc ?_ _)); refine blk_put (cs := #[.int .i64 ((rd_T65 t175 x36_1).f0), .int .i64 ((rd_T65 t175 x36_1).f1), .int .i64 ((rd_T65 t175 x36_1).f2), .int .i64 ((rd_T65 t175 x36_1).f3), .int .i64 ((rd_T65 t175 x36_1).f4), .int .i64 0, .int .i64 0, .int .i64 0]) ?_ 5 _ rfl; (with_reducible repeat (first | refine blk_drewN ?_ _ | refine blk_drew ?_ | refine blk_alloc ?_ _)); refine blk_put (cs := #[.int .i64 ((rd_T65 t175 x36_1).f0), .int .i64 ((rd_T65 t175 x36_1).f1), .int .i64 ((rd_T65 t175 x36_1).f2), .int .i64 ((rd_T65 t175 x36_1).f3), .int .i64 0, .int .i64 0, .int .i64 0, .int .i64 0]) ?_ 4 _ rfl; (with_reducible repeat (first | refine blk_drewN ?_ _ | refine blk_drew ?_ | refine blk_alloc ?_ _)); refine blk_put (cs := #[.int .i64 ((rd_T65 t175 x36_1).f0), .int .i64 ((rd_T65 t175 x36_1).f1), .int .i64 ((rd_T65 t175 x36_1).f2), .int .i64 0, .int .i64 0, .int .i64 0, .int .i64 0, .int .i64 0]) ?_ 3 _ rfl; (with_reducible repeat (first | refine blk_drewN ?_ _ | refine blk_drew ?_ | refine blk_alloc ?_ _)); refine blk_put (cs := #[.int .i64 ((rd_T65 t175 x36_1).f0), .int .i64 ((rd_T65 t175 x36_1).f1), .int .i64 0, .int .i64 0, .int .i64 0, .int .i64 0, .int .i64 0, .int .i64 0]) ?_ 2 _ rfl; (with_reducible repeat (first | refine blk_drewN ?_ _ | refine blk_drew ?_ | refine blk_alloc ?_ _)); refine blk_put (cs := #[.int .i64 ((rd_T65 t175 x36_1).f0), .int .i64 0, .int .i64 0, .int .i64 0, .int .i64 0, .int .i64 0, .int .i64 0, .int .i64 0]) ?_ 1 _ rfl; (with_reducible repeat (first | refine blk_drewN ?_ _ | refine blk_drew ?_ | refine blk_alloc ?_ _)); refine blk_put (cs := #[.int .i64 0, .int .i64 0, .int .i64 0, .int .i64 0, .int .i64 0, .int .i64 0, .int .i64 0, .int .i64 0]) ?_ 0 _ rfl; (with_reducible repeat (first | refine blk_drewN ?_ _ | refine blk_drew ?_ | refine blk_alloc ?_ _)); exact BK179.out) hb); have n5_ := Aside0.mk (below_step (by repeat (first | (with_reducible first | exact HB.out | apply below_alloc | apply pw_below_drewN | apply below_drew1 | refine below_set ?_ GE170.out | refine below_set ?_ GE171.out | refine below_set ?_ GE179.out) | exact HB.out)) hb); clear HO_11; clear HO_34; clear BK170; clear BK171; clear BK179; clear HB; have HO_11 := n0_; have HO_34 := n1_; have BK170 := n2_; have BK171 := n3_; have BK179 := n4_; have HB := n5_; clear n0_ n1_ n2_ n3_ n4_ n5_; (try clear hb); (try clear hb2); (try clear hk); (try clear hi); have hcz97_0 : w96.cell? ⟨gb179, 0, none⟩ = some (.int .i64 ((rd_T65 t175 x36_1).f0)) := (blk_cell BK179.out 0).trans rfl; have hcz97_1 : w96.cell? ⟨gb179, 1, none⟩ = some (.int .i64 ((rd_T65 t175 x36_1).f1)) := (blk_cell BK179.out 1).trans rfl; have hcz97_2 : w96.cell? ⟨gb179, 2, none⟩ = some (.int .i64 ((rd_T65 t175 x36_1).f2)) := (blk_cell BK179.out 2).trans rfl; have hcz97_3 : w96.cell? ⟨gb179, 3, none⟩ = some (.int .i64 ((rd_T65 t175 x36_1).f3)) := (blk_cell BK179.out 3).trans rfl; have hcz97_4 : w96.cell? ⟨gb179, 4, none⟩ = some (.int .i64 ((rd_T65 t175 x36_1).f4)) := (blk_cell BK179.out 4).trans rfl; have hcz97_5 : w96.cell? ⟨gb179, 5, none⟩ = some (.int .i64 ((rd_T65 t175 x36_1).f5)) := (blk_cell BK179.out 5).trans rfl; have hcz97_6 : w96.cell? ⟨gb179, 6, none⟩ = some (.int .i64 ((rd_T65 t175 x36_1).f6)) := (blk_cell BK179.out 6).trans rfl; have hcz97_7 : w96.cell? ⟨gb179, 7, none⟩ = some (.int .i64 ((rd_T65 t175 x36_1).f7)) := (blk_cell BK179.out 7).trans rfl; have hfz97_0 := blk_frozen BK179.out 0; have hfz97_1 := blk_frozen BK179.out 1; have hfz97_2 := blk_frozen BK179.out 2; have hfz97_3 := blk_frozen BK179.out 3; have hfz97_4 := blk_frozen BK179.out 4; have hfz97_5 := blk_frozen BK179.out 5; have hfz97_6 := blk_frozen BK179.out 6; have hfz97_7 := blk_frozen BK179.out 7; obtain ⟨Ao98, co98, eo98⟩ := Kd.R_slice HO_11.out; subst eo98) | ((with_reducible refine gate_callee (f := 20) rfl ?_); refine goesL_ (some 53) rfl rfl Try.func20 (by kernel_rfl) rfl #[.slice Ao98 t172.length co98, .int .i64 ((rd_T65 t175 x36_1).f2)] rfl (by (try simp only [List.map_toArray, List.map_cons, List.map_nil]); first | done | rfl | (simp only [List.length_drop, List.length_take]; rfl)) ?_; (with_reducible refine (early_At.calls k1 _ _ t172 ((rd_T65 t175 x36_1).f2) t183 t184 _ ?side1 ?side2 A19.out).mono ?_); (case side1 => repeat (first | exact (Kd.R_reads' HO_11.out).2.2 | (with_reducible refine Kd.C_alloc ?_ _) | (with_reducible refine Kd.C_drewN ?_ _) | (with_reducible refine Kd.C_drew ?_))); (case side2 => exact (Kd.R_reads' HO_11.out).2.1); rintro e w99 ⟨rfl, hb⟩; refine ⟨_, rfl, ?_⟩; have n0_ := Aside0.mk (Kd.R_below (by (with_reducible repeat (first | apply Kd.R_alloc | apply Kd.R_drewN | apply Kd.R_drew)); exact HO_11.out) hb); have n1_ := Aside0.mk (Kd.R_below (by (with_reducible repeat (first | apply Kd.R_alloc | apply Kd.R_drewN | apply Kd.R_drew)); exact HO_34.out) hb); have n2_ := Aside0.mk (blk_below (g := gb170) (o := .cells #[.slice A0_0 l0_0.length c0_0, .int .i64 a0_1, .int .i64 a0_2, .int .i64 a0_3, .slice A0_4 l0_4.length c0_4] 58 (0, 0)) (by (with_reducible repeat (first | refine blk_drewN ?_ _ | refine blk_drew ?_ | refine blk_alloc ?_ _)); exact BK170.out) hb); have n3_ := Aside0.mk (blk_below (g := gb171) (o := .cells #[.int .i64 x172000_1, .int .i64 x172001_1, .int .i64 x172002_1] 56 (0, 0)) (by (with_reducible repeat (first | refine blk_drewN ?_ _ | refine blk_drew ?_ | refine blk_alloc ?_ _)); exact BK171.out) hb); have n4_ := Aside0.mk (blk_below (g := gb179) (o := .cells #[.int .i64 ((rd_T65 t175 x36_1).f0), .int .i64 ((rd_T65 t175 x36_1).f1), .int .i64 ((rd_T65 t175 x36_1).f2), .int .i64 ((rd_T65 t175 x36_1).f3), .int .i64 ((rd_T65 t175 x36_1).f4), .int .i64 ((rd_T65 t175 x36_1).f5), .int .i64 ((rd_T65 t175 x36_1).f6), .int .i64 ((rd_T65 t175 x36_1).f7)] 65 (0, 0)) (by (with_reducible repeat (first | refine blk_drewN ?_ _ | refine blk_drew ?_ | refine blk_alloc ?_ _)); exact BK179.out) hb); have n5_ := Aside0.mk (below_step (by repeat (first | (with_reducible first | exact HB.out | apply below_alloc | apply pw_below_drewN | apply below_drew1 | refine below_set ?_ GE170.out | refine below_set ?_ GE171.out | refine below_set ?_ GE179.out) | exact HB.out)) hb); clear HO_11; clear HO_34; clear BK170; clear BK171; clear BK179; clear HB; have HO_11 := n0_; have HO_34 := n1_; have BK170 := n2_; have BK171 := n3_; have BK179 := n4_; have HB := n5_; clear n0_ n1_ n2_ n3_ n4_ n5_; (try clear hb); (try clear hb2); (try clear hk); (try clear hi)))
              go_roundg k1
              case measure => have := HK1.out; omega
              case rel => exact ⟨(wrap64 (x36_1 + 1)), (x172000_1), (x172001_1), (x172002_1), (by first | rfl | (simp; done) | (simp [*]; done)), H', ⟨by have := HK1.out; omega⟩, ⟨by (with_reducible repeat (first | apply Kd.R_alloc | apply Kd.R_drewN | apply Kd.R_drew)); exact HO_11.out⟩, ⟨by (with_reducible repeat (first | apply Kd.R_alloc | apply Kd.R_drewN | apply Kd.R_drew)); exact Kd.R_mono HO_34.out (fun _ hk => trivial)⟩, ⟨by (with_reducible repeat (first | refine blk_drewN ?_ _ | refine blk_drew ?_ | refine blk_alloc ?_ _)); exact BK170.out⟩, ⟨by (with_reducible repeat (first | refine blk_drewN ?_ _ | refine blk_drew ?_ | refine blk_alloc ?_ _)); exact BK171.out⟩, ⟨by repeat (first | (with_reducible first | exact HB.out | apply below_alloc | apply pw_below_drewN | apply below_drew1 | refine below_set ?_ GE170.out | refine below_set ?_ GE171.out | refine below_set ?_ GE179.out) | exact HB.out)⟩⟩
          · rw [if_neg c17] at H
            exact absurd H (by simp)
        · rw [if_neg c16] at H
          exact absurd H (by simp)
      · rw [if_neg c15] at H
        have c15b0 : decide (x36_1 < (t175.length : Int)) = false := decide_eq_false c15
        clear c15
        simp only [Option.some.injEq, Prod.mk.injEq] at H
        obtain ⟨rfl, rfl, rfl, rfl, rfl⟩ := H
        have hnb100 := NB171_170.out
        have hnc100 := NB170_171.out
        have hcz101_0 : wr.cell? ⟨gb171, 0, none⟩ = some (.int .i64 x172000_1) := (blk_cell BK171.out 0).trans rfl
        have hcz101_1 : wr.cell? ⟨gb171, 1, none⟩ = some (.int .i64 x172001_1) := (blk_cell BK171.out 1).trans rfl
        have hcz101_2 : wr.cell? ⟨gb171, 2, none⟩ = some (.int .i64 x172002_1) := (blk_cell BK171.out 2).trans rfl
        have hfz101_0 := blk_frozen BK171.out 0
        have hfz101_1 := blk_frozen BK171.out 1
        have hfz101_2 := blk_frozen BK171.out 2
        go_wp2
        refine bodyPost_ret (results_ctt rfl _ _ gb171 56 #[.int .i64 0, .int .i64 0, .int .i64 0] (0, 0) _ rfl (by (with_reducible repeat (first | refine blk_drewN ?_ _ | refine blk_drew ?_ | refine blk_alloc ?_ _)); refine blk_put (cs := #[.int .i64 0, .int .i64 0, .int .i64 x172002_1]) ?_ 2 _ rfl; (with_reducible repeat (first | refine blk_drewN ?_ _ | refine blk_drew ?_ | refine blk_alloc ?_ _)); refine blk_put (cs := #[.int .i64 0, .int .i64 x172001_1, .int .i64 x172002_1]) ?_ 1 _ rfl; (with_reducible repeat (first | refine blk_drewN ?_ _ | refine blk_drew ?_ | refine blk_alloc ?_ _)); refine blk_put (cs := #[.int .i64 x172000_1, .int .i64 x172001_1, .int .i64 x172002_1]) ?_ 0 _ rfl; (with_reducible repeat (first | refine blk_drewN ?_ _ | refine blk_drew ?_ | refine blk_alloc ?_ _)); exact BK171.out) Try.underlying56 rfl (by kernel_rfl)) rfl ?_
        exact ⟨by first | rfl | (simp [errW_none, errW_some] <;> rfl) | (simp [*, errW_none, errW_some] <;> rfl), by repeat (first | (with_reducible first | exact HB.out | apply below_alloc | apply pw_below_drewN | apply below_drew1 | refine below_set ?_ GE170.out | refine below_set ?_ GE171.out) | exact HB.out)⟩
end Go.Proofs.Ytijflnpgiegajaa.Q
end
