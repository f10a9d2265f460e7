/- Part 5 of the texts behind the statement that the last text of this claim proves. -/
import Derived.Test.YtijflnpgiegajaaKB0
import Derived.Test.YtijflnpgiegajaaKB1
import Derived.Test.YtijflnpgiegajaaKB2
import Derived.Test.YtijflnpgiegajaaKB3
import Derived.Test.YtijflnpgiegajaaKB4
section
namespace Go.Proofs.Ytijflnpgiegajaa.Q
open Go.RowKit Go.Proofs.YtijflnpgiegajaaW.PrintWords Go.Proofs.YtijflnpgiegajaaW.PrintLast Go.Proofs.YtijflnpgiegajaaW.PrintMore Go.Proofs.Ytijflnpgiegajaa.IM Go.Proofs.Ytijflnpgiegajaa.Ev
set_option linter.unusedVariables false
set_option linter.unusedSimpArgs false
def leastK (l : List S65) (sh : List Int) : Nat := l.length * l.length + l.length + sh.length + 10
def leastGo (l : List S65) (dst size by_ : Int) (sh : List Int) : Nat → Int → Int → List S56 → Option (List S56 × Bool)
  | 0, _, _, acc => some (acc, true)
  | h + 1, node, t, acc => match least_search_next.f (leastK l sh) l dst size by_ sh node t (h : Int) with
    | none => none
    | some (i, s, a, n, ok) => if ok = true then leastGo l dst size by_ sh h n a (acc ++ [⟨i, s, a⟩]) else some (acc ++ [⟨i, s, a⟩], false)
def least_Route.f (l0 : List S65) (a1 a2 a3 a4 a5 : Int) (l6 : List Int) : Option (List S56 × Int × Bool) :=
  if l0.length ≤ 1000000 ∧ l6.length ≤ 1000000 then (early_Times.f l0 a1 a3 a4 l6).bind fun ev => if ev.length ≤ 1000000 then (match atT ev a2 with
    | none => some ([], 0, false)
    | some arr => if arr > a5 then some ([], 0, false) else (late_Fewest.f l0 a1 a2 a3 arr a4 l6).bind fun hk => if hk.2 = true then (leastGo l0 a2 a4 arr l6 hk.1.toNat a1 a3 []).map (fun x => if x.2 = true then (x.1, arr, true) else ([], 0, false)) else some ([], 0, false)) else none else none
theorem fewGo_bd (l : List S65) (dst size : Int) (sh : List Int) (frm now : Int) : ∀ (k h : Nat) (T : List (Int × Int)), 0 ≤ (fewGo l dst size sh frm now k h T).1 ∧ (fewGo l dst size sh frm now k h T).1 ≤ h + k
  | 0, h, T => by simp [fewGo]
  | k + 1, h, T => by
    have ih := fewGo_bd l dst size sh frm now k (h + 1) (stepT l dst size sh T)
    unfold fewGo
    split
    · exact ⟨ih.1, by have := ih.2; omega⟩
    · split
      · exact ⟨by simp, by simp; omega⟩
      · exact ⟨ih.1, by have := ih.2; omega⟩
theorem few_bd {l0 : List S65} {a1 a2 a3 a4 a5 : Int} {l6 : List Int} {n : Int} {ok : Bool} (h : late_Fewest.f l0 a1 a2 a3 a4 a5 l6 = some (n, ok)) : 0 ≤ n ∧ n ≤ 1000001 := by
  unfold late_Fewest.f at h
  split at h
  case isFalse => exact absurd h (by simp)
  rename_i hl
  injection h with h
  split at h
  · injection h with h _
    omega
  · have := fewGo_bd l0 a2 a5 l6 a1 a3 (l0.length + 1) 0 [(a2, a4)]
    rw [h] at this
    simp at this
    omega
theorem info58 : (Try.prog.info? 58).map (fun i => (i.zero, i.size, i.bytes)) = some (some (.agg #[.slice none 0 0, .int .i64 0, .int .i64 0, .int .i64 0, .slice none 0 0]), 5, 72) := by kernel_rfl
theorem info25 : (Try.prog.info? 25).map (fun i => (i.zero, i.size, i.bytes)) = some (some (.slice none 0 0), 1, 24) := by kernel_rfl
structure LSt (w0 w : World) (gs gr gt : Nat) (A0 : Option Addr) (c0 : Nat) (l0 : List S65) (a2 a4 arr : Int) (A6 : Option Addr) (c6 : Nat) (l6 : List Int) (vB v : Value) (acc : List S56) : Prop where
  B : Below w0.heap.size w0 w
  S : w.heap[gs]? = some (.cells #[.slice A0 l0.length c0, .int .i64 a2, .int .i64 a4, .int .i64 arr, .slice A6 l6.length c6] 58 (0, 0))
  R : w.heap[gr]? = some (.cells #[vB, .int .i64 arr] 27 (0, 0))
  T : w.heap[gt]? = some (.cells #[.slice none 0 0, .int .i64 0] 27 (0, 0))
  H : Kd.R k56 56 w w0.heap.size (fun _ => True) v acc
  GR : w0.heap.size ≤ gr
  GT : w0.heap.size ≤ gt
  NT : gt ≠ gr
section
variable {w0 w w' : World} {gs gr gt : Nat} {A0 : Option Addr} {c0 : Nat} {l0 : List S65} {a2 a4 arr : Int} {A6 : Option Addr} {c6 : Nat} {l6 : List Int} {vB v : Value} {acc : List S56}
theorem LSt.below (h : LSt w0 w gs gr gt A0 c0 l0 a2 a4 arr A6 c6 l6 vB v acc) (hb : Below w.heap.size w w') : LSt w0 w' gs gr gt A0 c0 l0 a2 a4 arr A6 c6 l6 vB v acc :=
  ⟨below_step h.B hb, blk_below h.S hb, blk_below h.R hb, blk_below h.T hb, Kd.R_below h.H hb, h.GR, h.GT, h.NT⟩
theorem LSt.app {v' : Value} {x : S56} (h : LSt w0 w gs gr gt A0 c0 l0 a2 a4 arr A6 c6 l6 vB v acc) (ho : Kd.R k56 56 w' w0.heap.size (fun _ => True) v' (acc ++ [x])) (hb : Below w0.heap.size w0 w') (hg : w.drew.grownBy w' v.ownBlock) : LSt w0 w' gs gr gt A0 c0 l0 a2 a4 arr A6 c6 l6 vB v' (acc ++ [x]) :=
  ⟨hb, blk_grown (blk_drew h.S) hg (Kd.R_ne h.H h.S (by decide)), blk_grown (blk_drew h.R) hg (Kd.R_ne h.H h.R (by decide)), blk_grown (blk_drew h.T) hg (Kd.R_ne h.H h.T (by decide)), ho, h.GR, h.GT, h.NT⟩
theorem LSt.store {vC : Value} (h : LSt w0 w gs gr gt A0 c0 l0 a2 a4 arr A6 c6 l6 vB v acc) (hR : w'.heap[gr]? = some (.cells #[vC, .int .i64 arr] 27 (0, 0))) (hg : w.grownBy w' (some gr)) : LSt w0 w' gs gr gt A0 c0 l0 a2 a4 arr A6 c6 l6 vC v acc :=
  ⟨below_grown_one h.B hg h.GR, blk_grown h.S hg (fun e => by injection e with e; have := h.S; rw [e, h.R] at this; injection this with this; injection this with _ this; exact absurd this (by decide)), hR, blk_grown h.T hg (fun e => by injection e with e; exact h.NT e), R_store h.H h.R (by decide) hg, h.GR, h.GT, h.NT⟩
theorem LSt.other {gh : Nat} (h : LSt w0 w gs gr gt A0 c0 l0 a2 a4 arr A6 c6 l6 vB v acc) (hg : w.grownBy w' (some gh)) (hn : gs ≠ gh ∧ gr ≠ gh ∧ gt ≠ gh) (ho : some gh ≠ v.ownBlock) (hb : w0.heap.size ≤ gh) : LSt w0 w' gs gr gt A0 c0 l0 a2 a4 arr A6 c6 l6 vB v acc :=
  ⟨below_grown_one h.B hg hb, blk_grown h.S hg (fun e => by injection e with e; exact hn.1 e), blk_grown h.R hg (fun e => by injection e with e; exact hn.2.1 e), blk_grown h.T hg (fun e => by injection e with e; exact hn.2.2 e), Kd.R_grown2 h.H rfl hg (fun k hk e => ho (by injection hk with hk; rw [hk]; exact e)), h.GR, h.GT, h.NT⟩
theorem LSt.lt (h : LSt w0 w gs gr gt A0 c0 l0 a2 a4 arr A6 c6 l6 vB v acc) : gs ≠ w.heap.size ∧ gr ≠ w.heap.size ∧ gt ≠ w.heap.size := by
  have h1 := (Array.getElem?_eq_some_iff.1 h.S).1
  have h2 := (Array.getElem?_eq_some_iff.1 h.R).1
  have h3 := (Array.getElem?_eq_some_iff.1 h.T).1
  omega
end
set_option maxHeartbeats 8000000 in
set_option maxRecDepth 100000 in
theorem least_Route.calls (A0 : Option Addr) (c0 : Nat) (l0 : List (S65)) (a1 : Int) (a2 : Int) (a3 : Int) (a4 : Int) (a5 : Int) (A6 : Option Addr) (c6 : Nat) (l6 : List Int) (r1 : List (S56)) (r2 : Int) (r3 : Bool) (w : World) (hr0 : Kd.C k65 w A0 l0.length l0) (hc0 : l0.length ≤ c0) (hr6 : Kd.C (Kd.int .i64) w A6 l6.length l6) (hc6 : l6.length ≤ c6) (h : least_Route.f l0 a1 a2 a3 a4 a5 l6 = some (r1, r2, r3)) :
    Calls Try.prog 15 #[.slice A0 l0.length c0, .int .i64 a1, .int .i64 a2, .int .i64 a3, .int .i64 a4, .int .i64 a5, .slice A6 l6.length c6] w fun e w' => ∃ v0_ : Value, e = .returned (.tuple #[.agg #[v0_, .int .i64 r2], .bool r3]) ∧ Kd.R k56 56 w' w.heap.size (fun _ => True) v0_ r1 ∧ Below w.heap.size w w' := by
  unfold least_Route.f at h
  split at h
  case isFalse => exact absurd h (by simp)
  rename_i hlen
  rw [Option.bind_eq_some_iff] at h
  obtain ⟨ev, hev, h⟩ := h
  split at h
  case isFalse => exact absurd h (by simp)
  rename_i hle
  have hat := early_At_eq ev hle (ev.length + 1) (Nat.lt_succ_self _) a2
  have HR0 := Aside0.mk hr0
  have HC0 := Aside0.mk hc0
  have HR6 := Aside0.mk hr6
  have HC6 := Aside0.mk hc6
  have HLN := Aside0.mk hlen
  have HEV := Aside0.mk hev
  have HB := Aside0.mk (Below.refl w.heap.size w)
  clear hr0 hc0 hr6 hc6 hlen hev hle
  cases hq : atT ev a2 with
  | none =>
    rw [hq] at hat h
    have HAT := Aside0.mk hat
    simp only [Option.some.injEq, Prod.mk.injEq] at h
    obtain ⟨rfl, rfl, rfl⟩ := h
    clear hat hq
    go_enter Try.func15, Try.ntmps15
    go_wp2_with (first
      | ((with_reducible refine gate_dst (N := 14) rfl ?_); go_loud (refine box1 14 rfl rfl rfl info27 ?_); intro gt w1 hg hblk hbw hs; have HB1 := Aside0.mk (below_step HB.out hbw); have HT1 := Aside0.mk hblk; have HGT := Aside0.mk (Nat.le_of_eq hg.symm); clear hg hblk hbw hs HB)
      | (go_at_call 21; go_loud (refine (early_Times.calls A0 c0 l0 a1 a3 a4 A6 c6 l6 ev _ (Kd.C_below HR0.out HB1.out) HC0.out (Kd.C_below HR6.out HB1.out) HC6.out HEV.out).mono ?_); rintro e w2 ⟨v2, rfl, ho, hb⟩; obtain ⟨A2, c2, rfl, hle2, hc2⟩ := Kd.R_reads ho; have HB2 := Aside0.mk (below_step HB1.out hb); have HT2 := Aside0.mk (blk_below HT1.out hb); have HE2 := Aside0.mk hc2; have HL2 := Aside0.mk hle2; clear ho hb hle2 hc2 HB1 HT1)
      | (go_at_call 20; go_loud (refine (early_At.calls (ev.length + 1) A2 c2 ev a2 _ _ _ HE2.out HL2.out HAT.out).mono ?_); rintro e w3 ⟨rfl, hb⟩; have HB3 := Aside0.mk (below_step HB2.out hb); have HT3 := Aside0.mk (blk_below HT2.out hb); clear hb HB2 HT2 HE2 HL2)
      | ((with_reducible refine gate_store (t := 27) (p := 14) rfl ?_); go_loud (refine store_part 14 rfl rfl rfl rfl gt 0 _ #[.slice none 0 0, .int .i64 0] #[.slice none 0 0, .int .i64 0] HT3.out rfl (by first | rfl | (go_simp; rfl)) info27 rfl (by simp) (by simp [Value.oneCell']) (by simp) ?_); intro w9 hblk9 hg9 hs9; have HBz := Aside0.mk (below_grown_one HB3.out hg9 HGT.out); have HKz := Aside0.mk hblk9; clear hblk9 hg9 hs9))
    refine bodyPost_ret (results_ct rfl _ _ gt 27 #[.slice none 0 0, .int .i64 0] (0, 0) _ rfl HKz.out Try.underlying27 rfl (by kernel_rfl)) rfl ?_
    exact ⟨_, rfl, Kd.R_nil k56 56 _ w.heap.size (fun _ => True), HBz.out⟩
  | some arr =>
    rw [hq] at hat h
    have HAT := Aside0.mk hat
    simp only at h
    clear hat hq
    by_cases hby : arr > a5
    · rw [if_pos hby] at h
      simp only [Option.some.injEq, Prod.mk.injEq] at h
      obtain ⟨rfl, rfl, rfl⟩ := h
      go_enter Try.func15, Try.ntmps15
      go_wp2_with (first
        | ((with_reducible refine gate_dst (N := 14) rfl ?_); go_loud (refine box1 14 rfl rfl rfl info27 ?_); intro gt w1 hg hblk hbw hs; have HB1 := Aside0.mk (below_step HB.out hbw); have HT1 := Aside0.mk hblk; have HGT := Aside0.mk (Nat.le_of_eq hg.symm); clear hg hblk hbw hs HB)
        | (go_at_call 21; go_loud (refine (early_Times.calls A0 c0 l0 a1 a3 a4 A6 c6 l6 ev _ (Kd.C_below HR0.out HB1.out) HC0.out (Kd.C_below HR6.out HB1.out) HC6.out HEV.out).mono ?_); rintro e w2 ⟨v2, rfl, ho, hb⟩; obtain ⟨A2, c2, rfl, hle2, hc2⟩ := Kd.R_reads ho; have HB2 := Aside0.mk (below_step HB1.out hb); have HT2 := Aside0.mk (blk_below HT1.out hb); have HE2 := Aside0.mk hc2; have HL2 := Aside0.mk hle2; clear ho hb hle2 hc2 HB1 HT1)
        | (go_at_call 20; go_loud (refine (early_At.calls (ev.length + 1) A2 c2 ev a2 _ _ _ HE2.out HL2.out HAT.out).mono ?_); rintro e w3 ⟨rfl, hb⟩; have HB3 := Aside0.mk (below_step HB2.out hb); have HT3 := Aside0.mk (blk_below HT2.out hb); clear hb HB2 HT2 HE2 HL2)
        | ((with_reducible refine gate_store (t := 27) (p := 14) rfl ?_); go_loud (refine store_part 14 rfl rfl rfl rfl gt 0 _ #[.slice none 0 0, .int .i64 0] #[.slice none 0 0, .int .i64 0] HT3.out rfl (by first | rfl | (go_simp; rfl)) info27 rfl (by simp) (by simp [Value.oneCell']) (by simp) ?_); intro w9 hblk9 hg9 hs9; have HBz := Aside0.mk (below_grown_one HB3.out hg9 HGT.out); have HKz := Aside0.mk hblk9; clear hblk9 hg9 hs9))
      refine bodyPost_ret (results_ct rfl _ _ gt 27 #[.slice none 0 0, .int .i64 0] (0, 0) _ rfl HKz.out Try.underlying27 rfl (by kernel_rfl)) rfl ?_
      exact ⟨_, rfl, Kd.R_nil k56 56 _ w.heap.size (fun _ => True), HBz.out⟩
    · rw [if_neg hby] at h
      rw [Option.bind_eq_some_iff] at h
      obtain ⟨⟨n, fk⟩, hfw, h⟩ := h
      have hbd := few_bd hfw
      obtain ⟨hn, rfl⟩ := Int.eq_ofNat_of_zero_le hbd.1
      have HFW := Aside0.mk hfw
      have hfin : ∃ fin : List S56 × Bool, (if fk = true then leastGo l0 a2 a4 arr l6 hn a1 a3 [] else some ([], false)) = some fin ∧ (if fin.2 = true then (fin.1, arr, true) else ([], 0, false)) = (r1, r2, r3) := by
        cases fk
        · simp only [Bool.false_eq_true, if_false] at h ⊢
          exact ⟨_, rfl, by simpa using h⟩
        · simp only [if_true, Int.toNat_natCast, Option.map_eq_some_iff] at h ⊢
          obtain ⟨fin, h1, h2⟩ := h
          exact ⟨fin, h1, h2⟩
      obtain ⟨fin, hfin, hres⟩ := hfin
      have HFIN := Aside0.mk hfin
      have HRES := Aside0.mk hres
      have HNB := Aside0.mk hbd.2
      clear h hfw hfin hres hbd
      go_enter Try.func15, Try.ntmps15
      go_wp2_with (first
        | ((with_reducible refine gate_dst (N := 14) rfl ?_); go_loud (refine box1 14 rfl rfl rfl info27 ?_); intro gt w1 hg hblk hbw hs; have HB1 := Aside0.mk (below_step HB.out hbw); have HT1 := Aside0.mk hblk; have HGT := Aside0.mk (Nat.le_of_eq hg.symm); clear hg hblk hbw hs HB)
        | (go_at_call 21; go_loud (refine (early_Times.calls A0 c0 l0 a1 a3 a4 A6 c6 l6 ev _ (Kd.C_below HR0.out HB1.out) HC0.out (Kd.C_below HR6.out HB1.out) HC6.out HEV.out).mono ?_); rintro e w2 ⟨v2, rfl, ho, hb⟩; obtain ⟨A2, c2, rfl, hle2, hc2⟩ := Kd.R_reads ho; have HB2 := Aside0.mk (below_step HB1.out hb); have HT2 := Aside0.mk (blk_below HT1.out hb); have HE2 := Aside0.mk hc2; have HL2 := Aside0.mk hle2; clear ho hb hle2 hc2 HB1 HT1)
        | (go_at_call 20; go_loud (refine (early_At.calls (ev.length + 1) A2 c2 ev a2 _ _ _ HE2.out HL2.out HAT.out).mono ?_); rintro e w3 ⟨rfl, hb⟩; have HB3 := Aside0.mk (below_step HB2.out hb); have HT3 := Aside0.mk (blk_below HT2.out hb); clear hb HB2 HT2 HE2 HL2)
        | (go_at_call 23; go_loud (refine (late_Fewest.calls A0 c0 l0 a1 a2 a3 arr a4 A6 c6 l6 (hn : Int) fk _ (Kd.C_below HR0.out HB3.out) HC0.out (Kd.C_below HR6.out HB3.out) HC6.out HFW.out).mono ?_); rintro e w4 ⟨rfl, hb⟩; have HB4 := Aside0.mk (below_step HB3.out hb); have HT4 := Aside0.mk (blk_below HT3.out hb); clear hb HB3 HT3)
        | ((with_reducible refine gate_dst (N := 19) rfl ?_); go_loud (refine box2 19 rfl rfl rfl rfl rfl rfl #[.slice A0 l0.length c0, .int .i64 a2, .int .i64 a4, .int .i64 arr, .slice A6 l6.length c6] info58 rfl rfl (by simp [Value.oneCell']) (by first | (go_simp; done) | (go_simp; rfl)) (by first | (go_simp; done) | (go_simp; rfl)) ?_); intro gs w5 hg hblk hbw hs; have HB5 := Aside0.mk (below_step HB4.out hbw); have HT5 := Aside0.mk (blk_below HT4.out hbw); have HS5 := Aside0.mk hblk; clear hg hblk hbw hs HB4 HT4)
        | ((with_reducible refine gate_dst (N := 20) rfl ?_); go_loud (refine box2 20 rfl rfl rfl rfl rfl rfl #[.slice none 0 0, .int .i64 arr] info27 rfl rfl (by simp [Value.oneCell']) (by first | (go_simp; done) | (go_simp; rfl)) (by first | (go_simp; done) | (go_simp; rfl)) ?_); intro gr w6 hg hblk hbw hs; have HST := Aside0.mk (show LSt w w6 gs gr gt A0 c0 l0 a2 a4 arr A6 c6 l6 (.slice none 0 0) (.slice none 0 0) [] from ⟨below_step HB5.out hbw, blk_below HS5.out hbw, hblk, blk_below HT5.out hbw, Kd.R_nil _ _ _ _ _, by rw [hg]; exact HB5.out.size, HGT.out, fun e => by have := (Array.getElem?_eq_some_iff.1 HT5.out).1; omega⟩); clear hg hblk hbw hs HB5 HT5 HS5 HGT))
      go_loopg [17, 18, 21, 22, 23] hn (fun kq v17 v18 v21 v22 _ w' => ∃ (okb : Bool) (node t : Int) (acc : List S56) (vH : Value), v17 = .bool okb ∧ v18 = .int .i64 (kq : Int) ∧ v21 = .int .i64 node ∧ v22 = .int .i64 t ∧ Aside0 ((if okb = true then leastGo l0 a2 a4 arr l6 kq node t acc else some (acc, false)) = some fin) ∧ Aside0 (LSt w w' gs gr gt A0 c0 l0 a2 a4 arr A6 c6 l6 vH vH acc) ∧ Aside0 (kq + acc.length ≤ 1000001))
      case atStart => exact ⟨fk, a1, a3, [], .slice none 0 0, rfl, rfl, rfl, rfl, HFIN, HST, ⟨by have := HNB.out; simp; omega⟩⟩
      case round =>
        clear HFIN HST HNB
        obtain ⟨okb, node, t, acc, vH, rfl, rfl, rfl, rfl, HFIN, HST, HNB⟩ := hrel
        cases okb with
        | false =>
          have hfin := HFIN.out
          simp only [Bool.false_eq_true, if_false, Option.some.injEq] at hfin
          subst hfin
          have hres := HRES.out
          simp only [Bool.false_eq_true, if_false, Prod.mk.injEq] at hres
          obtain ⟨rfl, rfl, rfl⟩ := hres
          clear HRES HFIN
          have HK3 := Aside0.mk HST.out.T
          have HB3 := Aside0.mk HST.out.B
          have HGT := Aside0.mk HST.out.GT
          go_wp2_with (first
            | ((with_reducible refine gate_store (t := 27) (p := 14) rfl ?_); go_loud (refine store_part 14 rfl rfl rfl rfl gt 0 _ #[.slice none 0 0, .int .i64 0] #[.slice none 0 0, .int .i64 0] HK3.out rfl (by first | rfl | (go_simp; rfl)) info27 rfl (by simp) (by simp [Value.oneCell']) (by simp) ?_); intro w9 hblk9 hg9 hs9; have HBz := Aside0.mk (below_grown_one HB3.out hg9 HGT.out); have HKz := Aside0.mk hblk9; clear hblk9 hg9 hs9))
          refine bodyPost_ret (results_ct rfl _ _ gt 27 #[.slice none 0 0, .int .i64 0] (0, 0) _ rfl HKz.out Try.underlying27 rfl (by kernel_rfl)) rfl ?_
          exact ⟨_, rfl, Kd.R_nil k56 56 _ w.heap.size (fun _ => True), HBz.out⟩
        | true =>
          cases gk with
          | zero =>
            have hfin := HFIN.out
            simp only [if_true, leastGo, Option.some.injEq] at hfin
            subst hfin
            have hres := HRES.out
            simp only [if_true, Prod.mk.injEq] at hres
            obtain ⟨rfl, rfl, rfl⟩ := hres
            clear HRES HFIN
            obtain ⟨Ao, co, eo⟩ := Kd.R_slice HST.out.H
            subst eo
            have y0 := (blk_cell HST.out.R 0).trans rfl
            have y1 := (blk_cell HST.out.R 1).trans rfl
            go_wp2_with (first
              | ((with_reducible refine gate_store (t := 27) (p := 14) rfl ?_); go_loud (refine store_part 14 rfl rfl rfl rfl gt 0 _ #[.slice Ao acc.length co, .int .i64 arr] #[.slice Ao acc.length co, .int .i64 arr] HST.out.T rfl (by first | rfl | (go_simp; rfl)) info27 rfl (by simp) (by simp [Value.oneCell']) (by simp) ?_); intro w9 hblk9 hg9 hs9; have HBz := Aside0.mk (below_grown_one HST.out.B hg9 HST.out.GT); have HHz := Aside0.mk (R_store HST.out.H HST.out.T (by decide) hg9); have HKz := Aside0.mk hblk9; clear hblk9 hg9 hs9))
            refine bodyPost_ret (results_ct rfl _ _ gt 27 #[.slice Ao acc.length co, .int .i64 arr] (0, 0) _ rfl HKz.out Try.underlying27 rfl (by kernel_rfl)) rfl ?_
            exact ⟨_, rfl, HHz.out, HBz.out⟩
          | succ k1 =>
            have hfin := HFIN.out
            simp only [if_true] at hfin
            rw [leastGo] at hfin
            split at hfin
            · exact absurd hfin (by simp)
            rename_i i s a n ok hnx
            have HNX := Aside0.mk hnx
            have HF2 := Aside0.mk (show (if ok = true then leastGo l0 a2 a4 arr l6 k1 n a (acc ++ [⟨i, s, a⟩]) else some (acc ++ [⟨i, s, a⟩], false)) = some fin from hfin)
            have HLX := Aside0.mk (show (acc.length + 1) * 24 ≤ 140737488355328 by have := HNB.out; omega)
            have HN2 := Aside0.mk (show k1 + (acc ++ [(⟨i, s, a⟩ : S56)]).length ≤ 1000001 by have := HNB.out; simp; omega)
            have hk1 : (k1 : Int) ≤ 1000001 := by have := HNB.out; omega
            clear hfin hnx HFIN HNB
            obtain ⟨Ao, co, eo⟩ := Kd.R_slice HST.out.H
            subst eo
            have x0 := (blk_cell HST.out.S 0).trans rfl
            have x1 := (blk_cell HST.out.S 1).trans rfl
            have x2 := (blk_cell HST.out.S 2).trans rfl
            have x3 := (blk_cell HST.out.S 3).trans rfl
            have x4 := (blk_cell HST.out.S 4).trans rfl
            go_wp2_with (first
              | ((with_reducible refine gate_dst (N := 23) rfl ?_); go_loud (refine box1 23 rfl rfl rfl info56 ?_); intro gh w4 hg hblk hbw hs; have HKN := Aside0.mk (R_new_ne HST.out.H hg); have HNE := Aside0.mk (show gs ≠ gh ∧ gr ≠ gh ∧ gt ≠ gh by rw [hg]; exact HST.out.lt); have HGH := Aside0.mk (show w.heap.size ≤ gh by rw [hg]; exact HST.out.B.size); have HS4 := Aside0.mk (HST.out.below hbw); have HK4 := Aside0.mk hblk; have z0 := (blk_cell HS4.out.S 0).trans rfl; have z1 := (blk_cell HS4.out.S 1).trans rfl; have z2 := (blk_cell HS4.out.S 2).trans rfl; have z3 := (blk_cell HS4.out.S 3).trans rfl; have z4 := (blk_cell HS4.out.S 4).trans rfl; clear hg hblk hbw hs x0 x1 x2 x3 x4 HST)
              | (go_at_call 34; go_loud (refine (least_search_next.calls (leastK l0 l6) A0 c0 l0 a2 a4 arr A6 c6 l6 node t (k1 : Int) i s a n ok _ (Kd.C_below HR0.out HS4.out.B) HC0.out (Kd.C_below HR6.out HS4.out.B) HC6.out HNX.out).mono ?_); rintro e w5 ⟨rfl, hb⟩; have HS5 := Aside0.mk (HS4.out.below hb); have HK5 := Aside0.mk (blk_below HK4.out hb); clear hb HS4 HK4 z0 z1 z2 z3 z4)
              | ((with_reducible refine gate_store (t := 56) (p := 23) rfl ?_); go_loud (refine store_part 23 rfl rfl rfl rfl gh 0 _ #[.int .i64 i, .int .i64 s, .int .i64 a] #[.int .i64 i, .int .i64 s, .int .i64 a] HK5.out rfl (by first | rfl | (go_simp; rfl)) info56 rfl (by simp) (by simp [Value.oneCell']) (by simp) ?_); intro w6 hblk6 hg6 hs6; have HS6 := Aside0.mk (HS5.out.other hg6 HNE.out HKN.out HGH.out); have HK6 := Aside0.mk hblk6; clear hblk6 hg6 hs6 HS5 HK5))
            refine start_ (n := 10) (S := fun w' => w'.cell? ⟨gh, 0, none⟩ = some (.int .i64 i) ∧ w'.cell? ⟨gh, 1, none⟩ = some (.int .i64 s) ∧ w'.cell? ⟨gh, 2, none⟩ = some (.int .i64 a)) (ds := []) #[false, false, false, false, false, false, false, false, false, false] (by kernel_rfl) rfl rfl ⟨(blk_cell HK6.out 0).trans rfl, (blk_cell HK6.out 1).trans rfl, (blk_cell HK6.out 2).trans rfl⟩ (fun hHeld => ?_)
            refine pure_ (i := 0) (N := (some 81)) (v := ?_) (a' := ?_) #[true, false, false, false, false, false, false, false, false, false] rfl rfl (by kernel_rfl) (fun _ _ _ h => h) (Or.inl ⟨by rfl, ?_⟩) ?_ ?_
            rotate_left
            · intro w'
              go_simp
              with_reducible rfl
            rotate_left
            · simp only [Act.put, List.setIfInBounds_toArray, List.set_cons_zero, List.set_cons_succ, i64_w, i32_w]
              rfl
            refine take_ (i := 2) (N := (some 83)) (v := ?_) (a' := ?_) #[true, false, true, false, false, false, false, false, false, false] rfl rfl (by kernel_rfl) (fun _ _ _ h => h) (Or.inl ⟨by rfl, ?_⟩) hHeld ?_ ?_
            rotate_left
            · rintro w' ⟨s1, s2, s3⟩
              go_simp
              with_reducible rfl
            rotate_left
            · simp only [Act.put, List.setIfInBounds_toArray, List.set_cons_zero, List.set_cons_succ, i64_w, i32_w]
              rfl
            refine pure_ (i := 5) (N := (some 86)) (v := ?_) (a' := ?_) #[true, false, true, false, false, true, false, false, false, false] rfl rfl (by kernel_rfl) (fun _ _ _ h => h) (Or.inl ⟨by rfl, ?_⟩) ?_ ?_
            rotate_left
            · intro w'
              go_simp
              with_reducible rfl
            rotate_left
            · simp only [Act.put, List.setIfInBounds_toArray, List.set_cons_zero, List.set_cons_succ, i64_w, i32_w]
              rfl
            refine take_ (i := 6) (N := (some 87)) (v := ?_) (a' := ?_) #[true, false, true, false, false, true, true, false, false, false] rfl rfl (by kernel_rfl) (fun _ _ _ h => h) (Or.inl ⟨by rfl, ?_⟩) hHeld ?_ ?_
            rotate_left
            · rintro w' ⟨s1, s2, s3⟩
              go_simp
              with_reducible rfl
            rotate_left
            · simp only [Act.put, List.setIfInBounds_toArray, List.set_cons_zero, List.set_cons_succ, i64_w, i32_w]
              rfl
            refine join_ (σ := Unit) 4 #[true, true, true, true, false, true, true, false, false, false] (fun _ => [(82, .slice Ao acc.length co), (84, .slice (some ⟨w6.heap.size, 0, none⟩) 1 1)]) (fun _ w' => w' = w6.drew.alloc (.cells #[.int .i64 i, .int .i64 s, .int .i64 a] 56)) ?_ (fun hc => ?_)
            rotate_left
            · have g0 := (blk_cell HS6.out.R 0).trans rfl
              have g1 := pw_cell_below (below_alloc (Below.refl w6.heap.size w6) (.cells #[.int .i64 i, .int .i64 s, .int .i64 a] 56)) g0
              refine two_ (i := 1) (j := 3) (Ni := some 82) (Nj := some 84) #[true, true, true, false, false, true, true, false, false, false] #[true, false, true, true, false, true, true, false, false, false] rfl rfl rfl rfl (by kernel_rfl) (by decide) (by decide) ?_ ?_
              · intro K hK
                rw [if_pos (by rfl)]
                go_simp
                refine hK.out _ _ ⟨hHeld.1, hHeld.2.1, hHeld.2.2⟩ (fun hHeld => ?_)
                clear hK K
                refine norm_ (a' := ?_) ?_ ?_
                rotate_left
                · first | (show Act.put _ (some 82) _ = _; simp only [Act.put, List.setIfInBounds_toArray, List.set_cons_zero, List.set_cons_succ, i64_w, i32_w]; rfl) | rfl
                refine one_ (i := 3) (N := (some 84)) #[true, true, true, true, false, true, true, false, false, false] rfl rfl (by kernel_rfl) (by decide) (fun K hK => ?_)
                rw [if_pos (by rfl)]
                go_simp
                refine hK.out _ _ ⟨pw_cell_below (below_alloc (Below.refl _ _) _) hHeld.1, pw_cell_below (below_alloc (Below.refl _ _) _) hHeld.2.1, pw_cell_below (below_alloc (Below.refl _ _) _) hHeld.2.2⟩ (fun hHeld => ?_)
                clear hK K
                refine norm_ (a' := ?_) ?_ ?_
                rotate_left
                · first | (show Act.put _ (some 84) _ = _; simp only [Act.put, List.setIfInBounds_toArray, List.set_cons_zero, List.set_cons_succ, i64_w, i32_w]; rfl) | rfl
                exact hc () _ rfl
              · intro K hK
                rw [if_pos (by rfl)]
                go_simp
                refine hK.out _ _ ⟨pw_cell_below (below_alloc (Below.refl _ _) _) hHeld.1, pw_cell_below (below_alloc (Below.refl _ _) _) hHeld.2.1, pw_cell_below (below_alloc (Below.refl _ _) _) hHeld.2.2⟩ (fun hHeld => ?_)
                clear hK K
                refine norm_ (a' := ?_) ?_ ?_
                rotate_left
                · first | (show Act.put _ (some 84) _ = _; simp only [Act.put, List.setIfInBounds_toArray, List.set_cons_zero, List.set_cons_succ, i64_w, i32_w]; rfl) | rfl
                refine one_ (i := 1) (N := (some 82)) #[true, true, true, true, false, true, true, false, false, false] rfl rfl (by kernel_rfl) (by decide) (fun K hK => ?_)
                rw [if_pos (by rfl)]
                go_simp
                refine hK.out _ _ ⟨hHeld.1, hHeld.2.1, hHeld.2.2⟩ (fun hHeld => ?_)
                clear hK K
                refine norm_ (a' := ?_) ?_ ?_
                rotate_left
                · first | (show Act.put _ (some 82) _ = _; simp only [Act.put, List.setIfInBounds_toArray, List.set_cons_zero, List.set_cons_succ, i64_w, i32_w]; rfl) | rfl
                exact hc () _ rfl
            rintro _ _ rfl
            refine norm_ (a' := ?_) ?_ ?_
            rotate_left
            · show putAll _ [(82, _), (84, _)] = _
              simp only [putAll, Act.put, List.setIfInBounds_toArray, List.set_cons_zero, List.set_cons_succ]
              rfl
            refine one_ (i := 4) (N := (some 85)) #[true, true, true, true, true, true, true, false, false, false] rfl rfl (by kernel_rfl) (by decide) (fun K hK => ?_)
            rw [if_pos (by rfl)]
            refine append_any k56 (w0 := w) (W := w6.drew) w.heap.size ?h1 (.tmp 82) (.tmp 84) 25 56 (.agg #[.int .i64 0, .int .i64 0, .int .i64 0]) 24 ?h2 Try.underlying25 info56 rfl (by decide) (by decide) (.slice Ao acc.length co) acc ⟨i, s, a⟩ [.int .i64 i, .int .i64 s, .int .i64 a] (fun _ => True) (fun _ => False) ?h8 ?h9 (k56_mkM _ _ _ ⟨i, s, a⟩) (fun _ hk => hk.elim) (fun _ _ => trivial) (Kd.R_drew HS6.out.H) (below_drew1 HS6.out.B) (below_size (below_drew1 HS6.out.B)) HLX.out ?h17 ?h18
            case h1 => rfl
            case h2 => rfl
            case h8 => rfl
            case h9 => rfl
            case h17 => rfl
            intro v7 w7 ho7 hb7 hg7 hat7
            obtain ⟨A7, c7, e7⟩ := Kd.R_slice ho7
            subst e7
            have HS7 := Aside0.mk (show LSt w w7 gs gr gt A0 c0 l0 a2 a4 arr A6 c6 l6 (.slice Ao acc.length co) (.slice A7 (acc ++ [(⟨i, s, a⟩ : S56)]).length c7) (acc ++ [⟨i, s, a⟩]) from HS6.out.app ho7 hb7 hg7)
            have HK7 := Aside0.mk (blk_grown (blk_drew HK6.out) hg7 HKN.out)
            refine hK.out _ _ ⟨(blk_cell HK7.out 0).trans rfl, (blk_cell HK7.out 1).trans rfl, (blk_cell HK7.out 2).trans rfl⟩ (fun hHeld => ?_)
            clear hb7 ho7 hg7 hat7
            clear hK K
            refine norm_ (a' := ?_) ?_ ?_
            rotate_left
            · first | (show Act.put _ (some 85) _ = _; simp only [Act.put, List.setIfInBounds_toArray, List.set_cons_zero, List.set_cons_succ, i64_w, i32_w]; rfl) | rfl
            refine pure_ (i := 7) (N := (some 88)) (v := ?_) (a' := ?_) #[true, true, true, true, true, true, true, true, false, false] rfl rfl (by kernel_rfl) (fun _ _ _ h => h) (Or.inl ⟨by rfl, ?_⟩) ?_ ?_
            rotate_left
            · intro w'
              go_simp
              with_reducible rfl
            rotate_left
            · simp only [Act.put, List.setIfInBounds_toArray, List.set_cons_zero, List.set_cons_succ, i64_w, i32_w]
              rfl
            refine one_ (i := 8) (N := none) #[true, true, true, true, true, true, true, true, true, false] rfl rfl (by kernel_rfl) (by decide) (fun K hK => ?_)
            refine store_step (by rfl) rfl rfl gr 0 _ #[.slice A7 (acc ++ [(⟨i, s, a⟩ : S56)]).length c7] #[.slice A7 (acc ++ [(⟨i, s, a⟩ : S56)]).length c7, .int .i64 arr] HS7.out.R (by rfl) (by rfl) info25 rfl (by simp) (by simp [Value.oneCell']) (by simp) ?_
            intro w8 hblk8 hg8 hs8
            have HS8 := Aside0.mk (HS7.out.store hblk8 hg8)
            have HK8 := Aside0.mk (blk_grown HK7.out hg8 (fun e => by injection e with e; exact HNE.out.2.1 e.symm))
            refine hK.out _ _ ⟨(blk_cell HK8.out 0).trans rfl, (blk_cell HK8.out 1).trans rfl, (blk_cell HK8.out 2).trans rfl⟩ (fun hHeld => ?_)
            clear hblk8 hg8 hs8
            clear hK K
            refine norm_ (a' := ?_) ?_ ?_
            rotate_left
            · first | (show Act.put _ none _ = _; simp only [Act.put, List.setIfInBounds_toArray, List.set_cons_zero, List.set_cons_succ, i64_w, i32_w]; rfl) | rfl
            refine pure_ (i := 9) (N := (some 22)) (v := ?_) (a' := ?_) #[true, true, true, true, true, true, true, true, true, true] rfl rfl (by kernel_rfl) (fun _ _ _ h => h) (Or.inl ⟨by rfl, ?_⟩) ?_ ?_
            rotate_left
            · intro w'
              go_simp
              with_reducible rfl
            rotate_left
            · simp only [Act.put, List.setIfInBounds_toArray, List.set_cons_zero, List.set_cons_succ, i64_w, i32_w]
              rfl
            refine done_ (by kernel_rfl) ?_
            go_wp2
            go_roundg k1
            case measure => omega
            case rel => exact ⟨ok, n, a, _, _, rfl, by first | rfl | (simp; done) | (go_num; done), rfl, rfl, HF2, HS8, HN2⟩
end Go.Proofs.Ytijflnpgiegajaa.Q
end
section
namespace Go.Proofs.Ytijflnpgiegajaa.Q
open Go.RowKit Go.Proofs.YtijflnpgiegajaaW.PrintWords Go.Proofs.YtijflnpgiegajaaW.PrintLast Go.Proofs.YtijflnpgiegajaaW.PrintMore Go.Proofs.Ytijflnpgiegajaa.IM Go.Proofs.Ytijflnpgiegajaa.Ev
set_option linter.unusedVariables false
set_option linter.unusedSimpArgs false
def arriveT (now : Int) (h : List S56) : Int := h.foldl (fun _ x => x.f2) now
def routeP (l : List S65) (ids : List Int) (frm dst now size : Int) : Option (List S56 × Int) :=
  if NodeP dst then
    match walkP l ids frm now size, endsP l ids frm with
    | some h, some n => if n.getLast? = some dst ∧ n.Nodup then some (h, arriveT now h) else none
    | _, _ => none
  else none
def resR (o : Option (List S56 × Int)) : List S56 × Int × Bool := match o with | some (h, t) => (h, t, true) | none => ([], 0, false)
def path_Route.f (l0 : List (S65)) (l1 : List Int) (a2 : Int) (a3 : Int) (a4 : Int) (a5 : Int) : Option ((List (S56)) × Int × Bool) :=
  if l0.length ≤ 1000000 ∧ l1.length < 1000000 then some (resR (routeP l0 l1 a2 a3 a4 a5)) else none
theorem walk_ends {l : List S65} {ids : List Int} {frm now size : Int} {h : List S56} (hw : walkP l ids frm now size = some h) : ∃ s, endsP l ids frm = some (frm :: s) ∧ s.length ≤ ids.length := by
  unfold walkP at hw
  simp only at hw
  split at hw
  · rename_i hc
    refine ⟨(stepsGo (byId l) ids frm []).1.map (·.f2), ?_, ?_⟩
    · unfold endsP
      simp only
      rw [if_pos ⟨hc.2.1, hc.2.2.2.2, hc.1⟩]
    · have := stepsGo_len (byId l) ids frm []
      simpa using this
  · simp at hw
theorem walkT_len : ∀ (es : List S65) (t size : Int) (h : List S56), walkT es t size = some h → h.length = es.length
  | [], t, size, h, hw => by simp [walkT] at hw; simp [← hw]
  | e :: r, t, size, h, hw => by
    rw [walkT] at hw
    split at hw
    · cases hr : walkT r (thereAt e t size) size with
      | none => rw [hr] at hw; simp at hw
      | some h' =>
        rw [hr] at hw
        simp at hw
        rw [← hw, List.length_cons, walkT_len r _ _ _ hr, List.length_cons]
    · simp at hw
theorem walkP_len {l : List S65} {ids : List Int} {frm now size : Int} {h : List S56} (hw : walkP l ids frm now size = some h) : h.length ≤ ids.length := by
  unfold walkP at hw
  simp only at hw
  split at hw
  · have := walkT_len _ _ _ _ hw
    have h2 := stepsGo_len (byId l) ids frm []
    simp at h2
    omega
  · simp at hw
theorem getLast_rd (frm : Int) (s : List Int) (dst : Int) : (frm :: s).getLast? = some dst ↔ rd (frm :: s) (s.length : Int) = dst := by
  rw [List.getLast?_eq_getElem?]
  simp [rd, List.getD_eq_getElem?_getD]
theorem zero4 : (Try.prog.info? 4).map (fun i => i.zero) = some (some (.bool false)) := by kernel_rfl
set_option maxHeartbeats 8000000 in
set_option maxRecDepth 100000 in
theorem path_Route.calls (A0 : Option Addr) (c0 : Nat) (l0 : List (S65)) (A1 : Option Addr) (c1 : Nat) (l1 : List Int) (a2 : Int) (a3 : Int) (a4 : Int) (a5 : Int) (r1 : List (S56)) (r2 : Int) (r3 : Bool) (w : World) (hr0 : Kd.C k65 w A0 l0.length l0) (hc0 : l0.length ≤ c0) (hr1 : Kd.C (Kd.int .i64) w A1 l1.length l1) (hc1 : l1.length ≤ c1) (h : path_Route.f l0 l1 a2 a3 a4 a5 = some (r1, r2, r3)) :
    Calls Try.prog 22 #[.slice A0 l0.length c0, .slice A1 l1.length c1, .int .i64 a2, .int .i64 a3, .int .i64 a4, .int .i64 a5] w fun e w' => ∃ v0_ : Value, e = .returned (.tuple #[.agg #[v0_, .int .i64 r2], .bool r3]) ∧ Kd.R k56 56 w' w.heap.size (fun _ => True) v0_ r1 ∧ Below w.heap.size w w' := by
  have HR0 := Aside0.mk hr0
  have HR1 := Aside0.mk hr1
  have HC0 := Aside0.mk hc0
  have HC1 := Aside0.mk hc1
  have hl0 := hr0.2.1
  have hl1 := hr1.2.1
  clear hr0 hc0 hr1 hc1
  unfold path_Route.f at h
  have hlen : l0.length ≤ 1000000 ∧ l1.length < 1000000 := by
    by_cases hq : l0.length ≤ 1000000 ∧ l1.length < 1000000
    · exact hq
    · rw [if_neg hq] at h; simp at h
  rw [if_pos hlen] at h
  obtain ⟨hL0, hL1⟩ := hlen
  have HF := Aside0.mk (Option.some.inj h)
  clear h
  have HB := Aside0.mk (Below.refl w.heap.size w)
  unfold routeP at HF
  go_enter Try.func22, Try.ntmps22
  by_cases hn : NodeP a3
  · have hF := HF.out
    rw [if_pos hn] at hF
    have HF := Aside0.mk hF
    clear hF
    have hcn := check_Node_eq a3
    rw [decide_eq_true hn] at hcn
    have HN := Aside0.mk hcn
    clear hcn hn
    have hk : l0.length + l1.length + 1 < l0.length + l1.length + 2 := Nat.lt_succ_self _
    have HWk := Aside0.mk (path_Walk_eq l0 hL0 l1 hL1 (l0.length + l1.length + 2) hk a2 a4 a5)
    have HEk := Aside0.mk (path_Ends_eq l0 hL0 l1 hL1 (l0.length + l1.length + 2) hk a2)
    clear hk
    cases hw : walkP l0 l1 a2 a4 a5 with
    | none =>
      have hW := HWk.out
      have hF := HF.out
      rw [hw] at hW hF
      simp only [resR, Prod.mk.injEq] at hF
      obtain ⟨rfl, rfl, rfl⟩ := hF
      obtain ⟨⟨en1, en2⟩, hE⟩ : ∃ p, path_Ends.f (l0.length + l1.length + 2) l0 l1 a2 = some p := ⟨_, HEk.out⟩
      clear HWk HEk HF hw
      have HWk := Aside0.mk hW
      have HEk := Aside0.mk hE
      clear hW hE
      go_wp2_with (first
        | ((with_reducible refine gate_dst (N := 12) rfl ?_); refine box1 12 rfl rfl rfl info27 ?_; intro g w2 hg hblk hbw hs; have HB2 := Aside0.mk (below_step HB.out hbw); have HK2 := Aside0.mk hblk; have HGE := Aside0.mk (Nat.le_trans HB.out.size (Nat.le_of_eq hg.symm)); clear hg hblk hbw hs HB)
        | (go_at_call 50; refine (check_Node.calls a3 true _ HN.out).mono ?_; rintro e w3 ⟨rfl, hb⟩; have HB := Aside0.mk (below_step HB2.out hb.below); have HK := Aside0.mk (blk_below HK2.out hb.below); clear hb HB2 HK2)
        | (go_at_call 51; go_loud (refine (path_Walk.calls (l0.length + l1.length + 2) A0 c0 l0 A1 c1 l1 a2 a4 a5 [] false _ (Kd.C_below HR0.out HB.out) HC0.out (Kd.C_below HR1.out HB.out) HC1.out HWk.out).mono ?_); rintro e w4 ⟨vh, rfl, hoh, hbh⟩; obtain ⟨Ah, ch, rfl, hch, _⟩ := Kd.R_reads hoh; have HB4 := Aside0.mk (below_step HB.out hbh); have HK4 := Aside0.mk (blk_below HK.out hbh); have HOH := Aside0.mk (Kd.R_lower hoh (below_size HB.out)); clear hoh hbh HB HK)
        | (go_at_call 16; go_loud (refine (path_Ends.calls (l0.length + l1.length + 2) A0 c0 l0 A1 c1 l1 a2 en1 en2 _ (Kd.C_below HR0.out HB4.out) HC0.out (Kd.C_below HR1.out HB4.out) HC1.out HEk.out).mono ?_); rintro e w5 ⟨vn, rfl, hon, hbn⟩; have HB5 := Aside0.mk (below_step HB4.out hbn); have HK5 := Aside0.mk (blk_below HK4.out hbn); clear hon hbn HB4 HK4 HOH)
        | ((with_reducible refine gate_store (t := 27) (p := 12) rfl ?_); go_loud (refine store_part 12 rfl rfl rfl rfl g 0 _ #[.slice none 0 0, .int .i64 0] #[.slice none 0 0, .int .i64 0] HK5.out rfl rfl info27 rfl (by simp) (by simp [Value.oneCell']) (by simp) ?_); intro w9 hblk9 hg9 hs9; have HBz := Aside0.mk (below_grown_one HB5.out hg9 HGE.out); have HKz := Aside0.mk hblk9; clear hblk9 hg9 hs9))
      refine bodyPost_ret (results_ct rfl _ _ g 27 #[.slice none 0 0, .int .i64 0] (0, 0) _ rfl HKz.out Try.underlying27 rfl (by kernel_rfl)) rfl ?_
      exact ⟨_, rfl, Kd.R_nil _ _ _ _ _, HBz.out⟩
    | some hops =>
      obtain ⟨ns, hns, hnl⟩ := walk_ends hw
      have hwl := walkP_len hw
      have hW := HWk.out
      have hE := HEk.out
      have hF := HF.out
      rw [hw] at hW hF
      rw [hns] at hE hF
      clear HWk HEk HF hw hns
      have HWk := Aside0.mk hW
      have HEk := Aside0.mk hE
      have HF := Aside0.mk hF
      clear hW hE hF
      have hnd0 : 0 < (a2 :: ns).length := by simp
      have hnd1 : (a2 :: ns).length ≤ 1000000 := by simp; omega
      have hlastE := getLast_rd a2 ns a3
      rw [show (ns.length : Int) = ((a2 :: ns).length : Int) - 1 from by simp] at hlastE
      have HND := Aside0.mk (show (a2 :: ns) ≠ [] from by simp)
      obtain ⟨nd, Hnd⟩ : ∃ nd, nd = a2 :: ns := ⟨_, rfl⟩
      rw [← Hnd] at hnd0 hnd1 HEk HF hlastE HND
      clear Hnd
      obtain ⟨lv, hlv⟩ : ∃ lv, lv = rd nd ((nd.length : Int) - 1) := ⟨_, rfl⟩
      rw [← hlv] at hlastE
      have HLV := Aside0.mk hlv
      have HLE := Aside0.mk hlastE
      clear hlv hlastE hnl
      by_cases hlast : lv = a3
      · have hF := HF.out
        simp only at hF
        have hF2 : resR (if nd.Nodup then some (hops, arriveT a4 hops) else none) = (r1, r2, r3) := by
          rw [← hF]
          by_cases hq : nd.Nodup
          · rw [if_pos hq, if_pos ⟨HLE.out.2 hlast, hq⟩]
          · rw [if_neg hq, if_neg (fun g => hq g.2)]
        clear hF
        have hF := hF2
        clear hF2
        have HF := Aside0.mk hF
        clear hF HLE
        have hlb : (lv != a3) = false := bne_eq_false_iff_eq.mpr hlast
        clear hlast
        go_wp2_with (first
          | ((with_reducible refine gate_dst (N := 12) rfl ?_); refine box1 12 rfl rfl rfl info27 ?_; intro g w2 hg hblk hbw hs; have HB2 := Aside0.mk (below_step HB.out hbw); have HK2 := Aside0.mk hblk; have HGE := Aside0.mk (Nat.le_trans HB.out.size (Nat.le_of_eq hg.symm)); clear hg hblk hbw hs HB)
          | (go_at_call 50; refine (check_Node.calls a3 true _ HN.out).mono ?_; rintro e w3 ⟨rfl, hb⟩; have HB := Aside0.mk (below_step HB2.out hb.below); have HK := Aside0.mk (blk_below HK2.out hb.below); clear hb HB2 HK2)
          | (go_at_call 51; go_loud (refine (path_Walk.calls (l0.length + l1.length + 2) A0 c0 l0 A1 c1 l1 a2 a4 a5 hops true _ (Kd.C_below HR0.out HB.out) HC0.out (Kd.C_below HR1.out HB.out) HC1.out HWk.out).mono ?_); rintro e w4 ⟨vh, rfl, hoh, hbh⟩; obtain ⟨Ah, ch, rfl, hch, _⟩ := Kd.R_reads hoh; have HB4 := Aside0.mk (below_step HB.out hbh); have HK4 := Aside0.mk (blk_below HK.out hbh); have HOH := Aside0.mk (Kd.R_lower hoh (below_size HB.out)); clear hoh hbh HB HK)
          | (go_at_call 16; go_loud (refine (path_Ends.calls (l0.length + l1.length + 2) A0 c0 l0 A1 c1 l1 a2 nd true _ (Kd.C_below HR0.out HB4.out) HC0.out (Kd.C_below HR1.out HB4.out) HC1.out HEk.out).mono ?_); rintro e w5 ⟨vn, rfl, hon, hbn⟩; obtain ⟨An, cn, rfl, hcn, hrn⟩ := Kd.R_reads hon; have HB5 := Aside0.mk (below_step HB4.out hbn); have HK5 := Aside0.mk (blk_below HK4.out hbn); have HOH5 := Aside0.mk (Kd.R_below HOH.out hbn); have HON := Aside0.mk (Kd.R_lower hon (below_size HB4.out)); obtain ⟨adn, en, hxn⟩ := Kd.at_int hrn ((nd.length : Int) - 1) (by omega) (by omega); cases en; rw [show ((nd.length : Int) - 1).toNat = nd.length - 1 from by omega] at hxn; rw [← HLV.out] at hxn; clear hon hbn HB4 HK4 HOH hrn)
          | ((with_reducible refine gate_dst (N := 57) rfl ?_); refine im_make 57 rfl rfl rfl ?_; intro b w6 hb hm hbw hs; have HGB := Aside0.mk (Nat.le_of_eq hb.symm); have HM := Aside0.mk hm; have HA := Aside0.mk hbw; clear hm hbw hs hb))
        go_loopg [20, 60] nd.length (fun kq _ v60 w' => ∃ (i : Nat) (m : List (Int × Bool)), v60 = .int .i64 (i : Int) ∧ Aside0 (i + kq = nd.length) ∧ Aside0 ((nd.take i).Nodup) ∧ Aside0 (∀ x, (aget m x).getD false = decide (x ∈ nd.take i)) ∧ Aside0 (IMap w' b (m.map fun p => (p.1, Value.bool p.2))) ∧ Aside0 (Below w5.heap.size w5 w'))
        case atStart => exact ⟨0, [], rfl, ⟨by omega⟩, ⟨by simp⟩, ⟨by simp [aget]⟩, HM, HA⟩
        case round =>
          clear HM HA
          obtain ⟨i, m, rfl, HI, HU, HV, HM, HA⟩ := hrel
          cases gk with
          | succ k1 =>
            have hi : i < nd.length := by have := HI.out; omega
            have p0 : 0 ≤ ((i : Nat) : Int) := by omega
            have p1 : ((i : Nat) : Int) < (nd.length : Int) := by omega
            obtain ⟨ad, e0, hx0⟩ := Kd.at_int (Kd.R_reads' HON.out).2.2 (i : Int) p0 p1
            cases e0
            rw [Int.toNat_natCast] at hx0
            replace hx0 := pw_cell_below HA.out hx0
            obtain ⟨x, hx⟩ : ∃ x, x = rd nd (i : Int) := ⟨_, rfl⟩
            rw [← hx] at hx0
            have hxe : nd[i] = x := by rw [hx, rdI nd i hi]
            clear hx
            by_cases hin : x ∈ nd.take i
            · have hbt : (aget m x).getD false = true := by rw [HV.out]; exact decide_eq_true hin
              have hF := HF.out
              rw [if_neg (fun hnd => by
                have h2 := List.take_append_drop i nd
                rw [← h2, List.nodup_append] at hnd
                exact hnd.2.2 x hin x (by rw [List.drop_eq_getElem_cons hi, hxe]; exact List.mem_cons_self) rfl)] at hF
              simp only [resR, Prod.mk.injEq] at hF
              obtain ⟨rfl, rfl, rfl⟩ := hF
              have HBT := Aside0.mk hbt
              have HKb := Aside0.mk (blk_below HK5.out HA.out)
              have HBb := Aside0.mk (below_step HB5.out HA.out)
              clear hbt HF hin HV HU hxe
              go_wp2_with (first
                | (at_lookup; go_loud (refine im_look1 Value.bool false 66 rfl rfl rfl Try.underlying73 Try.underlying3 zero4 b m x rfl rfl HM.out ?_); rw [HBT.out])
                | ((with_reducible refine gate_store (t := 27) (p := 12) rfl ?_); go_loud (refine store_part 12 rfl rfl rfl rfl g 0 _ #[.slice none 0 0, .int .i64 0] #[.slice none 0 0, .int .i64 0] HKb.out rfl rfl info27 rfl (by simp) (by simp [Value.oneCell']) (by simp) ?_); intro w9 hblk9 hg9 hs9; have HBz := Aside0.mk (below_grown_one HBb.out hg9 HGE.out); have HKz := Aside0.mk hblk9; clear hblk9 hg9 hs9))
              refine bodyPost_ret (results_ct rfl _ _ g 27 #[.slice none 0 0, .int .i64 0] (0, 0) _ rfl HKz.out Try.underlying27 rfl (by kernel_rfl)) rfl ?_
              exact ⟨_, rfl, Kd.R_nil _ _ _ _ _, HBz.out⟩
            · have hbt : (aget m x).getD false = false := by rw [HV.out]; exact decide_eq_false hin
              have HBT := Aside0.mk hbt
              have HIN := Aside0.mk hin
              have HXE := Aside0.mk hxe
              clear hbt hin hxe
              go_wp2_with (first
                | (at_lookup; go_loud (refine im_look1 Value.bool false 66 rfl rfl rfl Try.underlying73 Try.underlying3 zero4 b m x rfl rfl HM.out ?_); rw [HBT.out])
                | (at_mapUpdate; go_loud (refine im_store Value.bool rfl rfl rfl Try.underlying73 Try.underlying3 b m x true rfl rfl rfl HM.out ?_); intro w7 hm7 hg7 hs7; have HM7 := Aside0.mk hm7; have HA7 := Aside0.mk (below_grown_one HA.out hg7 HGB.out); clear hm7 hg7 hs7 HM HA))
              go_roundg k1
              case measure => omega
              case rel => exact ⟨i + 1, aset m x true, by first | rfl | (simp; done) | (go_num; done), ⟨by have := HI.out; omega⟩, ⟨by
                rw [List.take_succ_eq_append_getElem hi, HXE.out, List.nodup_append]
                exact ⟨HU.out, by simp, fun a ha b hb e => HIN.out (by simp at hb; rw [← hb, ← e]; exact ha)⟩⟩, ⟨fun z => by
                rw [aget_aset, List.take_succ_eq_append_getElem hi, HXE.out]
                by_cases hz : x = z
                · subst hz; simp
                · rw [if_neg hz, HV.out]
                  simp [Ne.symm hz]⟩, HM7, HA7⟩
          | zero =>
            have hi : ¬ ((i : Nat) : Int) < (nd.length : Int) := by have := HI.out; omega
            have hU := HU.out
            rw [List.take_of_length_le (by have := HI.out; omega)] at hU
            have hF := HF.out
            rw [if_pos hU] at hF
            simp only [resR, Prod.mk.injEq] at hF
            obtain ⟨rfl, h2, rfl⟩ := hF
            have HF := Aside0.mk h2
            have HB6 := Aside0.mk (below_step HB5.out HA.out)
            have HK6 := Aside0.mk (blk_below HK5.out HA.out)
            have HOH6 := Aside0.mk (Kd.R_below HOH5.out HA.out)
            clear hU h2 HU HV HM HA HI
            obtain ⟨wA, rfl⟩ : ∃ wA : World, wA = wr := ⟨_, rfl⟩
            go_wp2_with (first
              | ((with_reducible refine gate_dst (N := 21) rfl ?_); go_loud (refine box2 21 rfl rfl rfl rfl rfl rfl #[.slice Ah hops.length ch, .int .i64 a4] info27 rfl rfl (by simp [Value.oneCell']) (by first | (go_simp; done) | (go_simp; rfl)) (by first | (go_simp; done) | (go_simp; rfl)) ?_); intro gr w7 hg hblk hbw hs; have HGR := Aside0.mk (Nat.le_of_eq hg.symm); have HKR := Aside0.mk hblk; have HA := Aside0.mk hbw; clear hg hblk hbw hs))
            go_loopg [23, 76] hops.length (fun kq _ v76 w' => ∃ (i : Nat), v76 = .int .i64 (i : Int) ∧ Aside0 (i + kq = hops.length) ∧ Aside0 (w'.heap[gr]? = some (.cells #[.slice Ah hops.length ch, .int .i64 (arriveT a4 (hops.take i))] 27 (0, 0))) ∧ Aside0 (Below wA.heap.size wA w'))
            case atStart => exact ⟨0, rfl, ⟨by omega⟩, HKR, HA⟩
            case round =>
              clear HKR HA
              obtain ⟨i, rfl, HI, HKR, HA⟩ := hrel
              cases gk with
              | succ k1 =>
                have hi : i < hops.length := by have := HI.out; omega
                have p0 : 0 ≤ ((i : Nat) : Int) := by omega
                have p1 : ((i : Nat) : Int) < (hops.length : Int) := by omega
                obtain ⟨ad, e0, hx0, hx1, hx2⟩ := at_T56 (Kd.R_reads' HOH6.out).2.2 (i : Int) p0 p1
                cases e0
                rw [Int.toNat_natCast] at hx0 hx1 hx2
                replace hx0 := pw_cell_below HA.out hx0
                replace hx1 := pw_cell_below HA.out hx1
                replace hx2 := pw_cell_below HA.out hx2
                obtain ⟨hp, hhp⟩ : ∃ hp, hp = rd_T56 hops (i : Int) := ⟨_, rfl⟩
                rw [← hhp] at hx0 hx1 hx2
                have HHP := Aside0.mk (show hops[i] = hp by rw [hhp, rd56 hops i hi])
                clear hhp
                go_wp2_with (first
                  | ((with_reducible refine gate_dst (N := 23) rfl ?_); go_loud (refine box2 23 rfl rfl rfl rfl rfl rfl #[.int .i64 hp.f0, .int .i64 hp.f1, .int .i64 hp.f2] info56 rfl rfl (by simp [Value.oneCell']) (by first | (go_simp; done) | (go_simp; rfl)) (by first | (go_simp; done) | (go_simp; rfl)) ?_); intro gh w8 hg hblk hbw hs; have HKR2 := Aside0.mk (blk_below HKR.out hbw); have HA2 := Aside0.mk (below_step HA.out hbw); have y0 := (blk_cell hblk 0).trans rfl; have y1 := (blk_cell hblk 1).trans rfl; have y2 := (blk_cell hblk 2).trans rfl; clear hg hblk hbw hs HKR HA hx0 hx1 hx2)
                  | ((with_reducible refine gate_store (t := 3) (p := 82) rfl ?_); go_loud (refine store_part 82 rfl rfl rfl rfl gr 1 _ #[.int .i64 hp.f2] #[.slice (some ad) hops.length ch, .int .i64 hp.f2] HKR2.out rfl rfl info3 rfl (by simp) (by simp [Value.oneCell']) (by simp) ?_); intro w9 hblk9 hg9 hs9; have HA3 := Aside0.mk (below_grown_one HA2.out hg9 HGR.out); have HKR3 := Aside0.mk hblk9; clear hblk9 hg9 hs9 HA2 HKR2))
                go_roundg k1
                case measure => omega
                case rel => exact ⟨i + 1, by first | rfl | (simp; done) | (go_num; done), ⟨by have := HI.out; omega⟩, ⟨by rw [List.take_succ_eq_append_getElem hi, HHP.out]; simpa [arriveT, List.foldl_append] using HKR3.out⟩, HA3⟩
              | zero =>
                have hi : ¬ ((i : Nat) : Int) < (hops.length : Int) := by have := HI.out; omega
                have hK := HKR.out
                rw [List.take_of_length_le (by have := HI.out; omega), HF.out] at hK
                have HKF := Aside0.mk hK
                have HBb := Aside0.mk (below_step HB6.out HA.out)
                have HKb := Aside0.mk (blk_below HK6.out HA.out)
                have HOHb := Aside0.mk (Kd.R_below HOH6.out HA.out)
                have k0 := (blk_cell hK 0).trans rfl
                have k1 := (blk_cell hK 1).trans rfl
                clear hK HKR HA HI
                go_wp2_with (first
                  | ((with_reducible refine gate_store (t := 27) (p := 12) rfl ?_); go_loud (refine store_part 12 rfl rfl rfl rfl g 0 _ #[.slice Ah hops.length ch, .int .i64 r2] #[.slice Ah hops.length ch, .int .i64 r2] HKb.out rfl rfl info27 rfl (by simp) (by simp [Value.oneCell']) (by simp) ?_); intro w9 hblk9 hg9 hs9; have HBz := Aside0.mk (below_grown_one HBb.out hg9 HGE.out); have HOHz := Aside0.mk (R_store HOHb.out HKb.out (by decide) hg9); have HKz := Aside0.mk hblk9; clear hblk9 hg9 hs9))
                refine bodyPost_ret (results_ct rfl _ _ g 27 #[.slice Ah hops.length ch, .int .i64 r2] (0, 0) _ rfl HKz.out Try.underlying27 rfl (by kernel_rfl)) rfl ?_
                exact ⟨_, rfl, HOHz.out, HBz.out⟩
      · have hF := HF.out
        simp only at hF
        rw [if_neg (fun g => hlast (HLE.out.1 g.1))] at hF
        simp only [resR, Prod.mk.injEq] at hF
        obtain ⟨rfl, rfl, rfl⟩ := hF
        have hlb : (lv != a3) = true := bne_iff_ne.mpr hlast
        clear hlast HF HLE
        go_wp2_with (first
          | ((with_reducible refine gate_dst (N := 12) rfl ?_); refine box1 12 rfl rfl rfl info27 ?_; intro g w2 hg hblk hbw hs; have HB2 := Aside0.mk (below_step HB.out hbw); have HK2 := Aside0.mk hblk; have HGE := Aside0.mk (Nat.le_trans HB.out.size (Nat.le_of_eq hg.symm)); clear hg hblk hbw hs HB)
          | (go_at_call 50; refine (check_Node.calls a3 true _ HN.out).mono ?_; rintro e w3 ⟨rfl, hb⟩; have HB := Aside0.mk (below_step HB2.out hb.below); have HK := Aside0.mk (blk_below HK2.out hb.below); clear hb HB2 HK2)
          | (go_at_call 51; go_loud (refine (path_Walk.calls (l0.length + l1.length + 2) A0 c0 l0 A1 c1 l1 a2 a4 a5 hops true _ (Kd.C_below HR0.out HB.out) HC0.out (Kd.C_below HR1.out HB.out) HC1.out HWk.out).mono ?_); rintro e w4 ⟨vh, rfl, hoh, hbh⟩; obtain ⟨Ah, ch, rfl, hch, _⟩ := Kd.R_reads hoh; have HB4 := Aside0.mk (below_step HB.out hbh); have HK4 := Aside0.mk (blk_below HK.out hbh); have HOH := Aside0.mk (Kd.R_lower hoh (below_size HB.out)); clear hoh hbh HB HK)
          | (go_at_call 16; go_loud (refine (path_Ends.calls (l0.length + l1.length + 2) A0 c0 l0 A1 c1 l1 a2 nd true _ (Kd.C_below HR0.out HB4.out) HC0.out (Kd.C_below HR1.out HB4.out) HC1.out HEk.out).mono ?_); rintro e w5 ⟨vn, rfl, hon, hbn⟩; obtain ⟨An, cn, rfl, hcn, hrn⟩ := Kd.R_reads hon; have HB5 := Aside0.mk (below_step HB4.out hbn); have HK5 := Aside0.mk (blk_below HK4.out hbn); have HOH5 := Aside0.mk (Kd.R_below HOH.out hbn); have HON := Aside0.mk (Kd.R_lower hon (below_size HB4.out)); obtain ⟨adn, en, hxn⟩ := Kd.at_int hrn ((nd.length : Int) - 1) (by omega) (by omega); cases en; rw [show ((nd.length : Int) - 1).toNat = nd.length - 1 from by omega] at hxn; rw [← HLV.out] at hxn; clear hon hbn HB4 HK4 HOH hrn)
          | ((with_reducible refine gate_store (t := 27) (p := 12) rfl ?_); go_loud (refine store_part 12 rfl rfl rfl rfl g 0 _ #[.slice none 0 0, .int .i64 0] #[.slice none 0 0, .int .i64 0] HK5.out rfl rfl info27 rfl (by simp) (by simp [Value.oneCell']) (by simp) ?_); intro w9 hblk9 hg9 hs9; have HBz := Aside0.mk (below_grown_one HB5.out hg9 HGE.out); have HKz := Aside0.mk hblk9; clear hblk9 hg9 hs9))
        refine bodyPost_ret (results_ct rfl _ _ g 27 #[.slice none 0 0, .int .i64 0] (0, 0) _ rfl HKz.out Try.underlying27 rfl (by kernel_rfl)) rfl ?_
        exact ⟨_, rfl, Kd.R_nil _ _ _ _ _, HBz.out⟩
  · have hF := HF.out
    rw [if_neg hn] at hF
    simp only [resR, Prod.mk.injEq] at hF
    obtain ⟨rfl, rfl, rfl⟩ := hF
    have hcn := check_Node_eq a3
    rw [decide_eq_false hn] at hcn
    have HN := Aside0.mk hcn
    clear hcn hn HF
    go_wp2_with (first
      | ((with_reducible refine gate_dst (N := 12) rfl ?_); refine box1 12 rfl rfl rfl info27 ?_; intro g w2 hg hblk hbw hs; have HB2 := Aside0.mk (below_step HB.out hbw); have HK2 := Aside0.mk hblk; have HGE := Aside0.mk (Nat.le_trans HB.out.size (Nat.le_of_eq hg.symm)); clear hg hblk hbw hs HB)
      | (go_at_call 50; refine (check_Node.calls a3 false _ HN.out).mono ?_; rintro e w3 ⟨rfl, hb⟩; have HB := Aside0.mk (below_step HB2.out hb.below); have HK := Aside0.mk (blk_below HK2.out hb.below); clear hb HB2 HK2)
      | ((with_reducible refine gate_store (t := 27) (p := 12) rfl ?_); go_loud (refine store_part 12 rfl rfl rfl rfl g 0 _ #[.slice none 0 0, .int .i64 0] #[.slice none 0 0, .int .i64 0] HK.out rfl rfl info27 rfl (by simp) (by simp [Value.oneCell']) (by simp) ?_); intro w9 hblk9 hg9 hs9; have HBz := Aside0.mk (below_grown_one HB.out hg9 HGE.out); have HKz := Aside0.mk hblk9; clear hblk9 hg9 hs9))
    refine bodyPost_ret (results_ct rfl _ _ g 27 #[.slice none 0 0, .int .i64 0] (0, 0) _ rfl HKz.out Try.underlying27 rfl (by kernel_rfl)) rfl ?_
    exact ⟨_, rfl, Kd.R_nil _ _ _ _ _, HBz.out⟩
end Go.Proofs.Ytijflnpgiegajaa.Q
end
section
namespace Go.Proofs.Ytijflnpgiegajaa.Q
open Go.RowKit Go.Proofs.YtijflnpgiegajaaW.PrintWords Go.Proofs.YtijflnpgiegajaaW.PrintLast Go.Proofs.YtijflnpgiegajaaW.PrintMore Go.Proofs.Ytijflnpgiegajaa.IM
set_option linter.unusedVariables false
set_option linter.unusedSimpArgs false
def hopsT (size : Int) : List S65 → Int → List S56
  | [], _ => []
  | e :: r, t => ⟨e.f0, sendAt e t, thereAt e t size⟩ :: hopsT size r (thereAt e t size)
theorem hopsT_ids (size : Int) : ∀ (es : List S65) (t : Int), (hopsT size es t).map (·.f0) = es.map (·.f0)
  | [], t => rfl
  | e :: r, t => by simp only [hopsT, List.map_cons, hopsT_ids size r]
theorem hopsT_len (size : Int) (es : List S65) (t : Int) : (hopsT size es t).length = es.length := by
  have := congrArg List.length (hopsT_ids size es t)
  simpa using this
theorem hopsT_arrive (size : Int) : ∀ (es : List S65) (t : Int), arriveT t (hopsT size es t) = endT size es t
  | [], t => rfl
  | e :: r, t => hopsT_arrive size r _
theorem atT_rowT {T : List (Int × Int)} (hn : (T.map (·.1)).Nodup) (n : Int) : atT (rowT T) n = aget T n := by
  have hk : ((rowT T).map (·.f0)).Nodup := by
    have := ((sortR_perm (T.map pairR)).map (·.f0)).nodup_iff.2
    exact this (by rw [pairR_keys]; exact hn)
  apply Option.ext
  intro x
  rw [atT_mem hk]
  constructor
  · rintro ⟨y, hy, h1, h2⟩
    have hy' := (sortR_perm (T.map pairR)).mem_iff.1 hy
    obtain ⟨p, hp, rfl⟩ := List.mem_map.1 hy'
    refine aget_of_mem hn ?_
    rw [← h1, ← h2]
    exact hp
  · intro h
    refine ⟨⟨n, x⟩, (sortR_perm (T.map pairR)).mem_iff.2 (List.mem_map.2 ⟨(n, x), aget_some_mem h, rfl⟩), rfl, rfl⟩
def nextB (times : List S71) (dst size now : Int) (sh : List Int) (e : S65) : Bool :=
  decide (PassP e now size) && (match atT times e.f2 with | some x => decide (thereAt e now size ≤ x) | none => false) && (decide (e.f2 = dst) || decide (e.f2 ∉ sh))
def nextR (size now : Int) : Option S65 → Int × Int × Int × Int × Bool
  | some e => (e.f0, sendAt e now, thereAt e now size, e.f2, true)
  | none => (0, 0, 0, 0, false)
theorem next_l0 (now : Int) (times : List S71) (es l : List S65) (dst size b : Int) (sh : List Int) (hel : es.length ≤ 1000000) (htl : times.length ≤ 1000000) (hsl : sh.length ≤ 1000000) : ∀ (d i k : Nat), i + d = es.length → d + times.length + sh.length + 2 < k →
    least_search_next.l0 k now times es (es.length : Int) (i : Int) l dst size b sh = some (nextR size now ((es.drop i).find? (nextB times dst size now sh)))
  | 0, i, k, hd, hk => by
    obtain ⟨k, rfl⟩ : ∃ m, k = m + 1 := ⟨k - 1, by omega⟩
    rw [least_search_next.l0, if_neg (by omega), List.drop_eq_nil_of_le (by omega)]
    rfl
  | d + 1, i, k, hd, hk => by
    obtain ⟨k, rfl⟩ : ∃ m, k = m + 1 := ⟨k - 1, by omega⟩
    obtain ⟨k, rfl⟩ : ∃ m, k = m + 1 := ⟨k - 1, by omega⟩
    have hi : i < es.length := by omega
    have ih := next_l0 now times es l dst size b sh hel htl hsl d (i + 1) (k + 1) (by omega) (by omega)
    rw [least_search_next.l0, if_pos (by omega), if_pos (by omega), if_pos (by omega), hop_Pass_eq, rd65 es i hi, wrap_succ i hi hel, early_At_eq times htl (k + 1) (by omega), slices_Contains_eq sh hsl (k + 1) (by omega), ih, List.drop_eq_getElem_cons hi, List.find?_cons]
    simp only [Option.bind_some]
    unfold nextB
    by_cases hp : PassP es[i] now size
    · simp only [if_pos hp, decide_eq_true hp, if_true, Bool.true_and]
      cases hq : atT times es[i].f2 with
      | none => simp
      | some x =>
        simp only [if_true]
        by_cases hx : thereAt es[i] now size ≤ x
        · simp only [if_pos hx, decide_eq_true hx, Bool.true_and]
          by_cases hd : es[i].f2 = dst
          · simp [hd, nextR]
          · by_cases hc : es[i].f2 ∈ sh
            · simp [hd, hc, nextR]
            · simp [hd, hc, nextR]
        · simp [hx]
    · simp [if_neg hp, hp]
theorem next_eq {l : List S65} {dst size b : Int} {sh : List Int} (hl : l.length ≤ 900) (hs : sh.length ≤ 1000000) (hA : Asked l dst b size) (node t : Int) (h : Nat) (hh : h ≤ l.length) :
    least_search_next.f (leastK l sh) l dst size b sh node t (h : Int) = some (nextR size t ((l.filter (fun e => decide (e.f1 = node))).find? (nextB (rowT (itT l dst size sh h [(dst, b)])) dst size t sh))) := by
  unfold least_search_next.f late_Times.f
  rw [if_pos ⟨by omega, hs⟩, if_neg (fun q => q.elim (fun q => by omega) (fun q => q hA)), show (min (h : Int) (l.length : Int)).toNat = h from by omega]
  have hk : l.length * l.length + l.length + sh.length + 10 = leastK l sh := rfl
  rw [view_From_eq l (by omega) _ (by omega) node]
  simp only [Option.bind_some]
  have hlen : (rowT (itT l dst size sh h [(dst, b)])).length ≤ 1 + l.length * l.length := by
    have h1 := (sortR_perm ((itT l dst size sh h [(dst, b)]).map pairR)).length_eq
    have h2 := (itT_ok l dst size sh h [(dst, b)] (by simp)).2.1
    have h3 : h * l.length ≤ l.length * l.length := Nat.mul_le_mul_right _ hh
    unfold rowT
    rw [h1, List.length_map]
    simp at h2
    omega
  have hq : l.length * l.length ≤ 900 * 900 := Nat.mul_le_mul hl hl
  have hf : (l.filter (fun e => decide (e.f1 = node))).length ≤ l.length := List.length_filter_le _ _
  have := next_l0 t (rowT (itT l dst size sh h [(dst, b)])) (l.filter (fun e => decide (e.f1 = node))) l dst size b sh (by omega) (by omega) hs _ 0 (leastK l sh) (Nat.zero_add _) (by omega)
  rw [show ((0 : Nat) : Int) = 0 from rfl] at this
  rw [this]
  rfl
theorem nextB_iff {l : List S65} {dst size b t : Int} {sh : List Int} {h : Nat} (hb : TimeP b) (h0 : 0 ≤ t) (e : S65) : nextB (rowT (itT l dst size sh h [(dst, b)])) dst size t sh e = true ↔ PassP e t size ∧ Reach l size sh dst b h e.f2 (thereAt e t size) ∧ e.f2 ∉ shE sh dst := by
  have hn := (itT_ok l dst size sh h [(dst, b)] (by simp)).1
  unfold nextB
  rw [atT_rowT hn]
  simp only [Bool.and_eq_true, decide_eq_true_eq, Bool.or_eq_true]
  have hs : (e.f2 = dst ∨ e.f2 ∉ sh) ↔ e.f2 ∉ shE sh dst := by
    rw [mem_shE]
    exact ⟨fun q g => q.elim (fun a => g.2 a) (fun a => a g.1), fun q => by
      by_cases a : e.f2 = dst
      · exact .inl a
      · exact .inr (fun c => q ⟨c, a⟩)⟩
  rw [hs]
  constructor
  · rintro ⟨⟨h1, h2⟩, h3⟩
    refine ⟨h1, ?_, h3⟩
    have hg := there_ge h1
    refine ((late_inv hb h).2.2 e.f2 _ (by omega)).1 ?_
    cases hq : aget (itT l dst size sh h [(dst, b)]) e.f2 with
    | none => rw [hq] at h2; exact absurd h2 (by simp)
    | some x => rw [hq] at h2; exact ⟨x, hq, by simpa using h2⟩
  · rintro ⟨h1, h2, h3⟩
    have hg := there_ge h1
    obtain ⟨x, hx, hle⟩ := ((late_inv hb h).2.2 e.f2 _ (by omega)).2 h2
    refine ⟨⟨h1, ?_⟩, h3⟩
    rw [hx]
    simpa using hle
theorem rightL_pair : ∀ {l : List S65}, RightL l → l.Pairwise (fun a b => a.f0 < b.f0)
  | [], _ => List.Pairwise.nil
  | [e], _ => by simp
  | e :: e' :: r, h => by
    have ih := rightL_pair h.2.2
    rw [List.pairwise_cons]
    refine ⟨fun x hx => ?_, ih⟩
    rcases List.mem_cons.1 hx with rfl | hx
    · exact h.2.1
    · have := (List.pairwise_cons.1 ih).1 x hx
      have := h.2.1
      omega
theorem find_least {p : S65 → Bool} : ∀ {l : List S65}, l.Pairwise (fun a b => a.f0 < b.f0) → ∀ {e0 : S65}, l.find? p = some e0 → ∀ e ∈ l, p e = true → e0 = e ∨ e0.f0 < e.f0
  | [], _, e0, h, e, he, _ => by simp at he
  | a :: r, hp, e0, h, e, he, hpe => by
    rw [List.pairwise_cons] at hp
    rw [List.find?_cons] at h
    cases hq : p a with
    | true =>
      rw [hq] at h
      injection h with h
      subst h
      rcases List.mem_cons.1 he with rfl | he
      · exact .inl rfl
      · exact .inr (hp.1 e he)
    | false =>
      rw [hq] at h
      rcases List.mem_cons.1 he with rfl | he
      · rw [hq] at hpe; exact absurd hpe (by simp)
      · exact find_least hp.2 h e he hpe
def lexLe : List Int → List Int → Prop
  | [], _ => True
  | _ :: _, [] => False
  | a :: r, b :: s => a < b ∨ (a = b ∧ lexLe r s)
theorem leastGo_ok {l : List S65} {dst size b : Int} {sh : List Int} (hl : l.length ≤ 900) (hs : sh.length ≤ 1000000) (hA : Asked l dst b size) : ∀ (h : Nat) (node t : Int) (acc : List S56), 0 ≤ t → h ≤ l.length → Reach l size sh dst b h node t → (∀ i, i < h → ¬ Reach l size sh dst b i node t) →
    ∃ es, es.length = h ∧ Way l size (shE sh dst) es node t dst ∧ endT size es t ≤ b ∧ leastGo l dst size b sh h node t acc = some (acc ++ hopsT size es t, true) ∧ ∀ es', Way l size (shE sh dst) es' node t dst → endT size es' t ≤ b → es'.length = h → lexLe (es.map (·.f0)) (es'.map (·.f0))
  | 0, node, t, acc, h0, hh, hr, hn => by
    obtain ⟨es, hle, hw, he⟩ := hr
    have : es = [] := List.eq_nil_of_length_eq_zero (by omega)
    subst this
    exact ⟨[], rfl, hw, he, by simp [leastGo, hopsT], fun es' _ _ _ => trivial⟩
  | h + 1, node, t, acc, h0, hh, hr, hn => by
    have hpw := (rightL_pair hA.2.2.2).filter (fun e => decide (e.f1 = node))
    
    have key : ∀ es, Way l size (shE sh dst) es node t dst → endT size es t ≤ b → es.length = h + 1 → ∃ e r, es = e :: r ∧ e ∈ l.filter (fun e => decide (e.f1 = node)) ∧ nextB (rowT (itT l dst size sh h [(dst, b)])) dst size t sh e = true ∧ Way l size (shE sh dst) r e.f2 (thereAt e t size) dst ∧ r.length = h := by
      intro es hw he hlen
      cases es with
      | nil => simp at hlen
      | cons e r =>
        obtain ⟨g1, g2, g3, g4, g5⟩ := hw
        have hrl : r.length = h := by simpa using hlen
        exact ⟨e, r, rfl, List.mem_filter.2 ⟨g1, by simp [g2]⟩, (nextB_iff hA.2.1 h0 e).2 ⟨g4, ⟨r, by omega, g5, he⟩, g3⟩, g5, hrl⟩
    have hex : ∃ es, Way l size (shE sh dst) es node t dst ∧ endT size es t ≤ b ∧ es.length = h + 1 := by
      obtain ⟨es, hle, hw, he⟩ := hr
      refine ⟨es, hw, he, ?_⟩
      by_cases hq : es.length = h + 1
      · exact hq
      · exact absurd ⟨es, by omega, hw, he⟩ (hn h (by omega))
    obtain ⟨es1, hw1, he1, hlen1⟩ := hex
    obtain ⟨e1, r1, rfl, hm1, hb1, hwr1, hrl1⟩ := key es1 hw1 he1 hlen1
    have hsome : ((l.filter (fun e => decide (e.f1 = node))).find? (nextB (rowT (itT l dst size sh h [(dst, b)])) dst size t sh)).isSome := by
      rw [List.find?_isSome]
      exact ⟨e1, hm1, hb1⟩
    obtain ⟨e0, he0⟩ := Option.isSome_iff_exists.1 hsome
    have hp0 := List.find?_some he0
    have hm0 := List.mem_of_find?_eq_some he0
    rw [List.mem_filter, decide_eq_true_eq] at hm0
    have hi0 := (nextB_iff hA.2.1 h0 e0).1 hp0
    have hg0 := there_ge hi0.1
    have hn0 : ∀ i, i < h → ¬ Reach l size sh dst b i e0.f2 (thereAt e0 t size) := fun i hi ⟨r, hrl, hw, he⟩ =>
      hn (i + 1) (by omega) ⟨e0 :: r, by simp; omega, ⟨hm0.1, hm0.2, hi0.2.2, hi0.1, hw⟩, he⟩
    obtain ⟨r0, hlen0, hw0, hend0, hgo0, hmin0⟩ := leastGo_ok hl hs hA h e0.f2 (thereAt e0 t size) (acc ++ [⟨e0.f0, sendAt e0 t, thereAt e0 t size⟩]) (by omega) (by omega) hi0.2.1 hn0
    refine ⟨e0 :: r0, by simp [hlen0], ⟨hm0.1, hm0.2, hi0.2.2, hi0.1, hw0⟩, hend0, ?_, ?_⟩
    · unfold leastGo
      rw [next_eq hl hs hA node t h (by omega), he0]
      simp only [nextR, if_true]
      rw [hgo0]
      simp [hopsT]
    · intro es' hw' he' hlen'
      obtain ⟨e, r, rfl, hm, hb', hwr, hrl⟩ := key es' hw' he' hlen'
      rcases find_least hpw he0 e hm hb' with rfl | hlt
      · exact .inr ⟨rfl, hmin0 r hwr he' hrl⟩
      · exact .inl hlt
structure RouteE (l : List S65) (size : Int) (sh : List Int) (frm now dst by_ : Int) (es : List S65) : Prop where
  asked : Asked l frm now size
  node : NodeP dst
  way : Way l size sh es frm now dst
  nodup : (frm :: es.map (·.f2)).Nodup
  time : endT size es now ≤ by_
def keyLe (size now : Int) (es es' : List S65) : Prop := endT size es now < endT size es' now ∨ (endT size es now = endT size es' now ∧ (es.length < es'.length ∨ (es.length = es'.length ∧ lexLe (es.map (·.f0)) (es'.map (·.f0)))))
theorem way_end {l : List S65} {size : Int} {sh : List Int} : ∀ (es : List S65) (a t b : Int), es ≠ [] → Way l size sh es a t b → b ∉ sh
  | [], a, t, b, h, _ => absurd rfl h
  | [e], a, t, b, _, h => by
    obtain ⟨_, _, h3, _, h5⟩ := h
    cases h5
    exact h3
  | e :: e' :: r, a, t, b, _, h => way_end (e' :: r) _ _ b (by simp) h.2.2.2.2
theorem least_spec {l : List S65} {frm dst now size by_ : Int} {sh : List Int} (hl : l.length ≤ 900) (hs : sh.length ≤ 1000000) :
    (least_Route.f l frm dst now size by_ sh = some ([], 0, false) ∧ ∀ es, ¬ RouteE l size sh frm now dst by_ es) ∨
    ∃ es, RouteE l size sh frm now dst by_ es ∧ least_Route.f l frm dst now size by_ sh = some (hopsT size es now, endT size es now, true) ∧ ∀ es', RouteE l size sh frm now dst by_ es' → keyLe size now es es' := by
  obtain ⟨ev, hev, hlen, hyes, hno⟩ := early_ok (l := l) (frm := frm) (now := now) (size := size) (sh := sh) (by omega) hs
  unfold least_Route.f
  rw [if_pos ⟨by omega, hs⟩, hev]
  simp only [Option.bind_some]
  rw [if_pos (by omega)]
  by_cases hA : Asked l frm now size
  · obtain ⟨hE, hall⟩ := hyes hA
    have h0 : 0 ≤ now := hA.2.1.1
    cases hq : atT ev dst with
    | none =>
      refine .inl ⟨rfl, fun es hr => ?_⟩
      obtain ⟨x, hx, _⟩ := hall es dst hr.way
      rw [hq] at hx
      exact absurd hx (by simp)
    | some arr =>
      obtain ⟨⟨es0, hw0, he0⟩, hmin⟩ := (hE dst arr).1 hq
      simp only
      by_cases hby : arr > by_
      · rw [if_pos hby]
        refine .inl ⟨rfl, fun es hr => ?_⟩
        have := hmin es hr.way
        have := hr.time
        omega
      · rw [if_neg hby]
        have harr : TimeP arr := he0 ▸ (endT_ge es0 _ _ _ hw0).2 hA.2.1
        unfold late_Fewest.f
        rw [if_pos ⟨by omega, hs⟩]
        by_cases hN : NodeP dst
        · have hA2 : Asked l dst arr size := ⟨hN, harr, hA.2.2.1, hA.2.2.2⟩
          rw [if_neg (fun q => q.elim (fun q => q hA) (fun q => q hA2))]
          simp only [Option.bind_some]
          have toE : ∀ es, Way l size sh es frm now dst → Way l size (shE sh dst) es frm now dst := fun es hw => way_sub es _ _ _ (fun e _ he hn => ⟨he, fun q => hn (mem_shE.1 q).1⟩) hw
          have hreach : ∀ es, Way l size sh es frm now dst → endT size es now ≤ arr → Reach l size sh dst arr es.length frm now := fun es hw he => ⟨es, Nat.le_refl _, toE es hw, he⟩
          obtain ⟨es1, hl1, hw1, he1, hn1, _⟩ := way_simple es0 _ _ _ h0 hw0
          have hr1 := hreach es1 hw1 (by omega)
          have hs1 := way_short hw1 hn1
          rcases few_spec (l := l) (size := size) (sh := sh) (dst := dst) harr h0 (l.length + 1) 0 (fun i hi => by omega) with ⟨j, hj, hrj, hnj, hfj⟩ | ⟨hnone, _⟩
          · have hfj' : fewGo l dst size sh frm now (l.length + 1) 0 [(dst, arr)] = ((j : Int), true) := hfj
            rw [hfj']
            simp only [if_true, Int.toNat_natCast]
            have hjl : j ≤ l.length := by omega
            obtain ⟨es, hlen, hw, he, hgo, hlex⟩ := leastGo_ok hl hs hA2 j frm now [] h0 hjl hrj hnj
            have hws : Way l size sh es frm now dst := by
              by_cases hnil : es = []
              · subst hnil
                exact hw
              · have hne0 : es0 ≠ [] := fun q => by
                  subst q
                  have : j = 0 := by
                    rcases Nat.eq_zero_or_pos j with q | q
                    · exact q
                    · exact absurd (hreach [] hw0 (by omega)) (hnj 0 q)
                  exact hnil (List.eq_nil_of_length_eq_zero (by omega))
                have hd := way_end es0 _ _ _ hne0 hw0
                refine way_sub es _ _ _ (fun e _ he hn => ⟨he, fun q => hn (mem_shE.2 ⟨q, fun g => hd (by rw [← g]; exact q)⟩)⟩) hw
            have hearr : endT size es now = arr := by have := hmin es hws; omega
            have hnd : (frm :: es.map (·.f2)).Nodup := by
              obtain ⟨es2, hl2, hw2, he2, hn2, hq2⟩ := way_simple es _ _ _ h0 hw
              rcases hq2 with rfl | hlt
              · exact hn2
              · exact absurd ⟨es2, Nat.le_refl _, hw2, by omega⟩ (hnj es2.length (by omega))
            refine .inr ⟨es, ⟨hA, hN, hws, hnd, by omega⟩, ?_, ?_⟩
            · rw [hgo, hearr]
              rfl
            · intro es' hr
              have hge := hmin es' hr.way
              by_cases hlt : arr < endT size es' now
              · exact .inl (by omega)
              · have heq : endT size es' now = arr := by omega
                refine .inr ⟨by omega, ?_⟩
                have hr' := hreach es' hr.way (by omega)
                have hge2 : j ≤ es'.length := by
                  rcases Nat.lt_or_ge es'.length j with q | q
                  · exact absurd hr' (hnj _ q)
                  · exact q
                by_cases hlq : es.length < es'.length
                · exact .inl hlq
                · exact .inr ⟨by omega, hlex es' (toE es' hr.way) (by omega) (by omega)⟩
          · exact absurd hr1 (hnone _ (by omega))
        · have hA2 : ¬ Asked l dst arr size := fun q => hN q.1
          rw [if_pos (.inr hA2)]
          refine .inl ⟨rfl, fun es hr => hN hr.node⟩
  · rw [hno hA]
    exact .inl ⟨rfl, fun es hr => hA hr.asked⟩
end Go.Proofs.Ytijflnpgiegajaa.Q
end
section
namespace Go.Proofs.Ytijflnpgiegajaa.Q
open Go.RowKit Go.Proofs.YtijflnpgiegajaaW.PrintWords Go.Proofs.YtijflnpgiegajaaW.PrintLast Go.Proofs.YtijflnpgiegajaaW.PrintMore Go.Proofs.Ytijflnpgiegajaa.IM
set_option linter.unusedVariables false
set_option linter.unusedSimpArgs false
theorem snoc_ind {α : Type} {P : List α → Prop} (h0 : P []) (h1 : ∀ l x, P l → P (l ++ [x])) (l : List α) : P l := by
  have : ∀ r : List α, P r.reverse := fun r => by
    induction r with
    | nil => exact h0
    | cons x r ih => rw [List.reverse_cons]; exact h1 _ _ ih
  have h := this l.reverse
  rwa [List.reverse_reverse] at h
theorem byId_some : ∀ (l : List S65) (id : Int) (e : S65), aget (byId l) id = some e → e ∈ l ∧ e.f0 = id := by
  refine snoc_ind (fun id e h => by simp [byId, aget] at h) ?_
  · intro l x ih id e h
    rw [byId_snoc, aget_aset] at h
    split at h
    · rename_i he
      injection h with h
      subst h
      exact ⟨by simp, he⟩
    · have := ih id e h
      exact ⟨by simp [this.1], this.2⟩
theorem byId_mem : ∀ (l : List S65), l.Pairwise (fun a b => a.f0 < b.f0) → ∀ e ∈ l, aget (byId l) e.f0 = some e := by
  refine snoc_ind (fun _ e h => by simp at h) ?_
  · intro l x ih hp e h
    rw [List.pairwise_append] at hp
    rw [byId_snoc, aget_aset]
    rcases List.mem_append.1 h with h | h
    · have := hp.2.2 e h x (by simp)
      rw [if_neg (by omega)]
      exact ih hp.1 e h
    · simp at h
      subst h
      rw [if_pos rfl]
def ChainE (l : List S65) : List S65 → Int → Prop
  | [], _ => True
  | e :: r, a => e ∈ l ∧ e.f1 = a ∧ ChainE l r e.f2
theorem steps_yes {l : List S65} (hp : l.Pairwise (fun a b => a.f0 < b.f0)) : ∀ (es : List S65) (a : Int) (acc : List S65), ChainE l es a → stepsGo (byId l) (es.map (·.f0)) a acc = (acc ++ es, true)
  | [], a, acc, _ => by simp [stepsGo]
  | e :: r, a, acc, h => by
    obtain ⟨h1, h2, h3⟩ := h
    rw [List.map_cons, stepsGo, byId_mem l hp e h1]
    simp only
    rw [if_pos h2, steps_yes hp r e.f2 _ h3]
    simp
theorem steps_no {l : List S65} : ∀ (ids : List Int) (a : Int) (acc : List S65), (∃ es, es.map (·.f0) = ids ∧ ChainE l es a ∧ stepsGo (byId l) ids a acc = (acc ++ es, true)) ∨ stepsGo (byId l) ids a acc = ([], false)
  | [], a, acc => .inl ⟨[], rfl, trivial, by simp [stepsGo]⟩
  | id :: r, a, acc => by
    rw [stepsGo]
    cases h : aget (byId l) id with
    | none => exact .inr rfl
    | some e =>
      simp only
      by_cases he : e.f1 = a
      · rw [if_pos he]
        obtain ⟨h1, h2⟩ := byId_some l id e h
        rcases steps_no r e.f2 (acc ++ [e]) with ⟨es, g1, g2, g3⟩ | g
        · exact .inl ⟨e :: es, by rw [List.map_cons, g1, h2], ⟨h1, he, g2⟩, by rw [g3]; simp⟩
        · exact .inr g
      · rw [if_neg he]
        exact .inr rfl
theorem walkT_way {l : List S65} {size : Int} : ∀ (es : List S65) (a t : Int) (h : List S56), ChainE l es a → walkT es t size = some h → ∃ b, Way l size [] es a t b ∧ h = hopsT size es t
  | [], a, t, h, _, hw => ⟨a, rfl, by simp only [walkT, Option.some.injEq] at hw; exact hw.symm⟩
  | e :: r, a, t, h, hc, hw => by
    obtain ⟨h1, h2, h3⟩ := hc
    rw [walkT] at hw
    split at hw
    · rename_i hp
      rw [Option.map_eq_some_iff] at hw
      obtain ⟨h', hw', rfl⟩ := hw
      obtain ⟨b, hb, rfl⟩ := walkT_way r e.f2 _ h' h3 hw'
      exact ⟨b, ⟨h1, h2, by simp, hp, hb⟩, rfl⟩
    · exact absurd hw (by simp)
theorem way_chain {l : List S65} {size : Int} {sh : List Int} : ∀ (es : List S65) (a t b : Int), Way l size sh es a t b → ChainE l es a
  | [], _, _, _, _ => trivial
  | e :: r, a, t, b, h => ⟨h.1, h.2.1, way_chain r _ _ b h.2.2.2.2⟩
theorem walkP_some {l : List S65} {frm now size : Int} {ids : List Int} {h : List S56} (hw : walkP l ids frm now size = some h) : Asked l frm now size ∧ ∃ es b, es.map (·.f0) = ids ∧ Way l size [] es frm now b ∧ h = hopsT size es now := by
  unfold walkP at hw
  simp only at hw
  split at hw
  case isFalse => exact absurd hw (by simp)
  rename_i hc
  refine ⟨hc.2, ?_⟩
  rcases steps_no (l := l) ids frm [] with ⟨es, g1, g2, g3⟩ | g
  · rw [g3] at hw
    obtain ⟨b, hb, he⟩ := walkT_way es frm now h g2 hw
    exact ⟨es, b, g1, hb, he⟩
  · rw [g] at hc
    exact absurd hc.1 (by simp)
theorem endsP_yes {l : List S65} {frm : Int} {es : List S65} (hn : NodeP frm) (hr : RightL l) (hc : ChainE l es frm) : endsP l (es.map (·.f0)) frm = some (frm :: es.map (·.f2)) := by
  unfold endsP
  rw [steps_yes (rightL_pair hr) es frm [] hc]
  simp [hn, hr]
theorem routeP_some {l : List S65} {frm dst now size : Int} {ids : List Int} {h : List S56} {t : Int} (hr : routeP l ids frm dst now size = some (h, t)) : ∃ es, es.map (·.f0) = ids ∧ RouteE l size [] frm now dst t es ∧ h = hopsT size es now ∧ t = endT size es now := by
  unfold routeP at hr
  split at hr
  case isFalse => exact absurd hr (by simp)
  rename_i hn
  cases hw : walkP l ids frm now size with
  | none => rw [hw] at hr; exact absurd hr (by simp)
  | some hs =>
    obtain ⟨hA, es, b, h1, h2, h3⟩ := walkP_some hw
    have he := endsP_yes hA.1 hA.2.2.2 (way_chain es _ _ _ h2)
    rw [h1] at he
    rw [hw, he] at hr
    simp only at hr
    split at hr
    case isFalse => exact absurd hr (by simp)
    rename_i hc
    injection hr with hr
    injection hr with hr1 hr2
    have hl := way_last es _ _ _ h2
    rw [hc.1] at hl
    injection hl with hl
    subst hl
    have ht : t = endT size es now := by rw [← hr2, h3, hopsT_arrive]
    exact ⟨es, h1, ⟨hA, hn, h2, hc.2, by omega⟩, by rw [← hr1, h3], ht⟩
instance (a b : S56) : Decidable (a = b) := decidable_of_iff (a.f0 = b.f0 ∧ a.f1 = b.f1 ∧ a.f2 = b.f2) ⟨fun h => by cases a; cases b; simp at h; simp [h], fun h => by subst h; exact ⟨rfl, rfl, rfl⟩⟩
def lexC : List Int → List Int → Int
  | [], [] => 0
  | [], _ :: _ => -1
  | _ :: _, [] => 1
  | a :: r, b :: s => if a < b then -1 else if a > b then 1 else lexC r s
def orI (a b : Int) : Int := if a = 0 then b else a
def cmpR (h1 : List S56) (t1 : Int) (h2 : List S56) (t2 : Int) : Int := orI (orI (cmpI t1 t2) (cmpI h1.length h2.length)) (lexC (h1.map (·.f0)) (h2.map (·.f0)))
theorem cmp_Or_eq (k : Nat) (a b : Int) : cmp_Or_int.f (k + 3) [a, b] = some (orI a b) := by
  unfold cmp_Or_int.f orI
  have w1 : wrap64 (0 + 1) = 1 := by unfold wrap64; omega
  have w2 : wrap64 (1 + 1) = 2 := by unfold wrap64; omega
  have r0 : rd [a, b] 0 = a := rfl
  have r1 : rd [a, b] 1 = b := rfl
  simp only [cmp_Or_int.l0, w1, w2, r0, r1, List.length_cons, List.length_nil]
  by_cases h : a = 0
  · by_cases g : b = 0 <;> simp [h, g]
  · simp [h]
theorem slices_Compare_l0 (x y : List Int) (hx : x.length ≤ 1000000) : ∀ (d i k : Nat), i + d = x.length → d < k → i ≤ y.length → slices_Compare_int_int.l0 k x y x (x.length : Int) (i : Int) = some (lexC (x.drop i) (y.drop i))
  | 0, i, k, hd, hk, hi => by
    obtain ⟨k, rfl⟩ : ∃ m, k = m + 1 := ⟨k - 1, by omega⟩
    rw [slices_Compare_int_int.l0, if_neg (by omega), List.drop_eq_nil_of_le (by omega)]
    by_cases h : i < y.length
    · rw [if_pos (by omega), List.drop_eq_getElem_cons h]
      rfl
    · rw [if_neg (by omega), List.drop_eq_nil_of_le (by omega)]
      rfl
  | d + 1, i, k, hd, hk, hi => by
    obtain ⟨k, rfl⟩ : ∃ m, k = m + 1 := ⟨k - 1, by omega⟩
    have hix : i < x.length := by omega
    rw [slices_Compare_int_int.l0, if_pos (by omega), if_pos (by omega), if_pos (by omega), List.drop_eq_getElem_cons hix]
    by_cases h : i < y.length
    · rw [if_neg (by omega), if_pos (by omega), List.drop_eq_getElem_cons h, cmp_Compare_eq, rdI x i hix, rdI y i h, wrap_succ i hix hx, slices_Compare_l0 x y hx d (i + 1) k (by omega) (by omega) (by omega)]
      simp only [Option.bind_some, lexC, cmpI]
      by_cases c1 : x[i] < y[i]
      · simp [c1]
      · by_cases c2 : x[i] > y[i]
        · simp [c1, c2]
        · simp [c1, c2]
    · rw [if_pos (by omega), List.drop_eq_nil_of_le (show y.length ≤ i by omega)]
      rfl
theorem slices_Compare_eq (x y : List Int) (hx : x.length ≤ 1000000) (k : Nat) (hk : x.length < k) : slices_Compare_int_int.f k x y = some (lexC x y) := by
  unfold slices_Compare_int_int.f
  have := slices_Compare_l0 x y hx x.length 0 k (by omega) hk (Nat.zero_le _)
  rw [show ((0 : Nat) : Int) = 0 from rfl] at this
  rw [this]
  simp
theorem order_Compare_eq (h1 h2 : List S56) (t1 t2 : Int) (hl1 : h1.length ≤ 1000000) (hl2 : h2.length ≤ 1000000) (k : Nat) (hk : h1.length + h2.length + 3 < k) : order_Compare.f k h1 t1 h2 t2 = some (cmpR h1 t1 h2 t2) := by
  obtain ⟨k, rfl⟩ : ∃ m, k = m + 3 := ⟨k - 3, by omega⟩
  unfold order_Compare.f cmpR
  rw [cmp_Compare_eq, cmp_Compare_eq, path_IDs_eq h1 hl1 _ (by omega), path_IDs_eq h2 hl2 _ (by omega)]
  simp only [Option.bind_some, cmp_Or_eq]
  rw [slices_Compare_eq _ _ (by simpa using hl1) _ (by simp; omega)]
  simp only [Option.bind_some, cmp_Or_eq]
theorem api_Hop_l0 (x y : List S56) (hl : x.length = y.length) (hx : x.length ≤ 1000000) : ∀ (d i k : Nat), i + d = x.length → d < k → api_Hop.l0 k x y (x.length : Int) (i : Int) = some (decide (x.drop i = y.drop i))
  | 0, i, k, hd, hk => by
    obtain ⟨k, rfl⟩ : ∃ m, k = m + 1 := ⟨k - 1, by omega⟩
    rw [api_Hop.l0, if_neg (by omega), List.drop_eq_nil_of_le (by omega), List.drop_eq_nil_of_le (show y.length ≤ i by omega)]
    rfl
  | d + 1, i, k, hd, hk => by
    obtain ⟨k, rfl⟩ : ∃ m, k = m + 1 := ⟨k - 1, by omega⟩
    have hix : i < x.length := by omega
    have hiy : i < y.length := by omega
    rw [api_Hop.l0, if_pos (by omega), if_pos (by omega), if_pos (by omega), if_pos (by omega), rd56 x i hix, rd56 y i hiy, wrap_succ i hix hx, api_Hop_l0 x y hl hx d (i + 1) k (by omega) (by omega), List.drop_eq_getElem_cons (l := x) hix, List.drop_eq_getElem_cons (l := y) hiy]
    by_cases he : x[i] = y[i]
    · rw [if_neg (by rw [he]; simp)]
      congr 1
      rw [decide_eq_decide, List.cons.injEq]
      exact ⟨fun h => ⟨he, h⟩, fun h => h.2⟩
    · rw [if_pos ?_]
      · congr 1
        symm
        rw [decide_eq_false_iff_not, List.cons.injEq]
        exact fun h => he h.1
      · simp only [Bool.or_eq_true, Bool.not_eq_true', beq_eq_false_iff_ne]
        by_cases a : x[i].f0 = y[i].f0
        · by_cases b : x[i].f1 = y[i].f1
          · by_cases c : x[i].f2 = y[i].f2
            · exact absurd (by revert a b c; generalize x[i] = u; generalize y[i] = v; intro a b c; cases u; cases v; simp at a b c; simp [a, b, c]) he
            · exact .inr (.inr c)
          · exact .inr (.inl b)
        · exact .inl a
theorem path_Same_eq (h1 h2 : List S56) (t1 t2 : Int) (hl1 : h1.length ≤ 1000000) (k : Nat) (hk : h1.length < k) : path_Same.f k h1 t1 h2 t2 = some (decide (t1 = t2 ∧ h1 = h2)) := by
  unfold path_Same.f api_Hop.f
  by_cases ht : t1 = t2
  · rw [if_pos ht]
    by_cases hl : h1.length = h2.length
    · rw [if_pos (by omega)]
      have := api_Hop_l0 h1 h2 hl hl1 h1.length 0 k (by omega) hk
      rw [show ((0 : Nat) : Int) = 0 from rfl] at this
      rw [this]
      simp [ht]
    · rw [if_neg (by omega)]
      have : ¬ h1 = h2 := fun e => hl (by rw [e])
      simp [this]
  · rw [if_neg ht]
    simp [ht]
theorem lexC_le : ∀ (x y : List Int), x.length = y.length → lexLe x y → lexC x y ≤ 0 ∧ (lexC x y = 0 → x = y)
  | [], [], _, _ => ⟨by simp [lexC], fun _ => rfl⟩
  | [], b :: s, h, _ => by simp at h
  | a :: r, [], h, _ => by simp at h
  | a :: r, b :: s, h, hl => by
    simp only [lexC]
    rcases hl with hlt | ⟨rfl, hl⟩
    · rw [if_pos hlt]
      exact ⟨by omega, fun e => by omega⟩
    · have := lexC_le r s (by simpa using h) hl
      rw [if_neg (by omega), if_neg (by omega)]
      exact ⟨this.1, fun e => by rw [this.2 e]⟩
theorem ids_one {l : List S65} (hp : l.Pairwise (fun a b => a.f0 < b.f0)) : ∀ (xs ys : List S65), (∀ e ∈ xs, e ∈ l) → (∀ e ∈ ys, e ∈ l) → xs.map (·.f0) = ys.map (·.f0) → xs = ys
  | [], [], _, _, _ => rfl
  | [], b :: s, _, _, h => by simp at h
  | a :: r, [], _, _, h => by simp at h
  | a :: r, b :: s, hx, hy, h => by
    simp only [List.map_cons, List.cons.injEq] at h
    have h1 := byId_mem l hp a (hx a (by simp))
    have h2 := byId_mem l hp b (hy b (by simp))
    rw [h.1, h2] at h1
    injection h1 with h1
    rw [h1, ids_one hp r s (fun e he => hx e (by simp [he])) (fun e he => hy e (by simp [he])) h.2]
theorem cmpR_le {size now : Int} {es es' : List S65} (h : keyLe size now es es') : cmpR (hopsT size es now) (endT size es now) (hopsT size es' now) (endT size es' now) ≤ 0 ∧ (cmpR (hopsT size es now) (endT size es now) (hopsT size es' now) (endT size es' now) = 0 → es.map (·.f0) = es'.map (·.f0)) := by
  unfold cmpR
  simp only [hopsT_ids, hopsT_len]
  rcases h with h | ⟨h1, h | ⟨h2, h3⟩⟩
  · have a : cmpI (endT size es now) (endT size es' now) = -1 := by unfold cmpI; rw [if_pos h]
    simp [orI, a]
  · have a : cmpI (endT size es now) (endT size es' now) = 0 := by unfold cmpI; rw [if_neg (by omega), if_neg (by omega)]
    have b : cmpI (es.length : Int) (es'.length : Int) = -1 := by unfold cmpI; rw [if_pos (by omega)]
    simp [orI, a, b]
  · have a : cmpI (endT size es now) (endT size es' now) = 0 := by unfold cmpI; rw [if_neg (by omega), if_neg (by omega)]
    have b : cmpI (es.length : Int) (es'.length : Int) = 0 := by unfold cmpI; rw [if_neg (by omega), if_neg (by omega)]
    simp only [orI, a, b, if_true]
    exact lexC_le _ _ (by simp [h2]) h3
end Go.Proofs.Ytijflnpgiegajaa.Q
end
section
namespace Go.Proofs.Ytijflnpgiegajaa.Q
open Go.RowKit Go.Proofs.YtijflnpgiegajaaW.PrintWords Go.Proofs.YtijflnpgiegajaaW.PrintLast Go.Proofs.YtijflnpgiegajaaW.PrintMore Go.Proofs.Ytijflnpgiegajaa.IM Go.Proofs.Ytijflnpgiegajaa.Ev
set_option linter.unusedVariables false
set_option linter.unusedSimpArgs false
def net17 : List S65 := [⟨1, 1, 2, 10, 20, 3, 4, 30⟩, ⟨2, 2, 3, 30, 50, 9, 1, 30⟩, ⟨3, 1, 3, 30, 50, 9, 1, 90⟩, ⟨4, 2, 3, 0, 50, 1, 7, 90⟩]
theorem n17 : feluccalaw17_net.f = some net17 := by kernel_rfl
theorem a17 : least_Route.f net17 1 3 0 9 100 [] = some ([⟨3, 30, 32⟩], 32, true) := by kernel_rfl
theorem b17 : least_Route.f net17 1 3 0 7 100 [] = some ([⟨1, 10, 17⟩, ⟨4, 17, 31⟩], 31, true) := by kernel_rfl
theorem c17 : least_Route.f net17 1 3 0 7 100 [2] = some ([⟨3, 30, 32⟩], 32, true) := by kernel_rfl
theorem d17 : least_Route.f net17 1 3 0 9 31 [] = some ([], 0, false) := by kernel_rfl
theorem e17 : least_Route.f net17 2 2 5 9 5 [] = some ([], 5, true) := by kernel_rfl
theorem f17 : least_Route.f net17 2 2 6 9 5 [] = some ([], 0, false) := by kernel_rfl
theorem g17 : least_Route.f net17 1 3 0 9 100 [3] = some ([], 0, false) := by kernel_rfl
theorem litI {W : World} {g : Nat} {x : Int} (h : W.heap[g]? = some (.cells #[.int .i64 x] 3 (0, 0))) : Kd.C (Kd.int .i64) W (some ⟨g, 0, none⟩) 1 [x] := by
  refine ⟨rfl, by decide, fun _ => ⟨⟨g, 0, none⟩, rfl, fun j p hj => ?_⟩⟩
  have hj2 : j < 1 := (List.getElem?_eq_some_iff.1 hj).1
  obtain rfl : j = 0 := by omega
  injection hj with hj
  subst hj
  refine ⟨[.int .i64 x], rfl, rfl, fun i u hu => ?_⟩
  have hi : i < 1 := (List.getElem?_eq_some_iff.1 hu).1
  match i, hi with
  | 0, _ => injection hu with hu; subst hu; exact (blk_cell h 0).trans rfl
theorem lit56_1 {W : World} {g : Nat} {a b c : Int} (h : W.heap[g]? = some (.cells #[.int .i64 a, .int .i64 b, .int .i64 c] 56 (0, 0))) : Kd.C k56 W (some ⟨g, 0, none⟩) 1 [(⟨a, b, c⟩ : S56)] := by
  refine ⟨rfl, by decide, fun _ => ⟨⟨g, 0, none⟩, rfl, fun j p hj => ?_⟩⟩
  have hj2 : j < 1 := (List.getElem?_eq_some_iff.1 hj).1
  obtain rfl : j = 0 := by omega
  injection hj with hj
  subst hj
  refine ⟨[.int .i64 a, .int .i64 b, .int .i64 c], rfl, k56_mk W _, fun i u hu => ?_⟩
  have hi : i < 3 := (List.getElem?_eq_some_iff.1 hu).1
  match i, hi with
  | 0, _ => injection hu with hu; subst hu; exact (blk_cell h 0).trans rfl
  | 1, _ => injection hu with hu; subst hu; exact (blk_cell h 1).trans rfl
  | 2, _ => injection hu with hu; subst hu; exact (blk_cell h 2).trans rfl
theorem lit56_2 {W : World} {g : Nat} {a b c d e f : Int} (h : W.heap[g]? = some (.cells #[.int .i64 a, .int .i64 b, .int .i64 c, .int .i64 d, .int .i64 e, .int .i64 f] 56 (0, 0))) : Kd.C k56 W (some ⟨g, 0, none⟩) 2 [(⟨a, b, c⟩ : S56), ⟨d, e, f⟩] := by
  refine ⟨rfl, by decide, fun _ => ⟨⟨g, 0, none⟩, rfl, fun j p hj => ?_⟩⟩
  have hj2 : j < 2 := (List.getElem?_eq_some_iff.1 hj).1
  match j, hj2 with
  | 0, _ =>
    injection hj with hj
    subst hj
    refine ⟨[.int .i64 a, .int .i64 b, .int .i64 c], rfl, k56_mk W _, fun i u hu => ?_⟩
    have hi : i < 3 := (List.getElem?_eq_some_iff.1 hu).1
    match i, hi with
    | 0, _ => injection hu with hu; subst hu; exact (blk_cell h 0).trans rfl
    | 1, _ => injection hu with hu; subst hu; exact (blk_cell h 1).trans rfl
    | 2, _ => injection hu with hu; subst hu; exact (blk_cell h 2).trans rfl
  | 1, _ =>
    injection hj with hj
    subst hj
    refine ⟨[.int .i64 d, .int .i64 e, .int .i64 f], rfl, k56_mk W _, fun i u hu => ?_⟩
    have hi : i < 3 := (List.getElem?_eq_some_iff.1 hu).1
    match i, hi with
    | 0, _ => injection hu with hu; subst hu; exact (blk_cell h 3).trans rfl
    | 1, _ => injection hu with hu; subst hu; exact (blk_cell h 4).trans rfl
    | 2, _ => injection hu with hu; subst hu; exact (blk_cell h 5).trans rfl
structure BX (w : World) (g : Nat) (A : Option Addr) (c : Nat) (arr : Int) (hs : List S56) : Prop where
  G : w.heap[g]? = some (.cells #[.slice A hs.length c, .int .i64 arr] 27 (0, 0))
  C : Kd.C k56 w A hs.length hs
  L : hs.length ≤ c
theorem BX.below {w w' : World} {g : Nat} {A : Option Addr} {c : Nat} {arr : Int} {hs : List S56} (h : BX w g A c arr hs) (hb : Below w.heap.size w w') : BX w' g A c arr hs := ⟨blk_below h.G hb, Kd.C_below h.C hb, h.L⟩
theorem BX.c0 {w : World} {g : Nat} {A : Option Addr} {c : Nat} {arr : Int} {hs : List S56} (h : BX w g A c arr hs) : w.cell? ⟨g, 0, none⟩ = some (.slice A hs.length c) := (blk_cell h.G 0).trans rfl
theorem BX.c1 {w : World} {g : Nat} {A : Option Addr} {c : Nat} {arr : Int} {hs : List S56} (h : BX w g A c arr hs) : w.cell? ⟨g, 1, none⟩ = some (.int .i64 arr) := (blk_cell h.G 1).trans rfl
def feluccalaw17_small.f : Option Bool := some true
set_option maxHeartbeats 8000000 in
set_option maxRecDepth 100000 in
theorem feluccalaw17_small.calls (r : Bool) (w : World) (h : feluccalaw17_small.f = some r) :
    Calls Try.prog 14 #[] w fun e w' => e = .returned (.bool r) ∧ Below w.heap.size w w' := by
  obtain rfl : true = r := Option.some.inj h
  clear h
  have HB0 := Aside0.mk (Below.refl w.heap.size w)
  have tok0 := Aside0.mk trivial
  have tok1 := Aside0.mk trivial
  have tok2 := Aside0.mk trivial
  have tok3 := Aside0.mk trivial
  have tok4 := Aside0.mk trivial
  have tok5 := Aside0.mk trivial
  have tok6 := Aside0.mk trivial
  have sak0 := Aside0.mk trivial
  have sak1 := Aside0.mk trivial
  have sak2 := Aside0.mk trivial
  have sak3 := Aside0.mk trivial
  go_enter Try.func14, Try.ntmps14
  go_wp2_with (first
    | (go_at_call 33; go_loud (refine (feluccalaw17_net.calls net17 _ n17).mono ?_); rintro e w1 ⟨v0, rfl, ho, hb⟩; obtain ⟨A0, c0, rfl, hle0, hc0⟩ := Kd.R_reads ho; have HN1 := Aside0.mk hc0; have HC := Aside0.mk hle0; have HB1 := Aside0.mk (below_step HB0.out hb); clear ho hb hle0 hc0 HB0)
    | (have _q := tok0.out; clear _q; go_at_call 15; go_loud (refine (least_Route.calls A0 c0 net17 1 3 0 9 100 none 0 [] [(⟨3, 30, 32⟩ : S56)] 32 true _ HN1.out HC.out (Kd.C_nil _ _) (by decide) a17).mono ?_); rintro e u0 ⟨v, rfl, ho, hb⟩; obtain ⟨A, c, rfl, hle, hcc⟩ := Kd.R_reads ho; have HY := Aside0.mk hcc; have HZ := Aside0.mk hle; have hbb := hb; have HB2 := Aside0.mk (below_step HB1.out hbb); have HN2 := Aside0.mk (Kd.C_below HN1.out hbb); clear ho hb hbb hle hcc tok0 HB1 HN1)
    | ((with_reducible refine gate_dst (N := 2) rfl ?_); go_loud (refine box2 2 rfl rfl rfl rfl rfl rfl #[.slice A _ c, .int .i64 32] info27 rfl rfl (by simp [Value.oneCell']) (by first | (go_simp; done) | (go_simp; rfl)) (by first | (go_simp; done) | (go_simp; rfl)) ?_); intro g0 y0 hg hblk hbw hs; have X0_3 := Aside0.mk (show BX y0 g0 A c 32 [(⟨3, 30, 32⟩ : S56)] from ⟨hblk, Kd.C_below HY.out hbw, HZ.out⟩); have HB3 := Aside0.mk (below_step HB2.out hbw); have HN3 := Aside0.mk (Kd.C_below HN2.out hbw); clear hg hblk hbw hs HY HZ HB2 HN2)
    | (have _q := tok1.out; clear _q; go_at_call 15; go_loud (refine (least_Route.calls A0 c0 net17 1 3 0 7 100 none 0 [] [(⟨1, 10, 17⟩ : S56), (⟨4, 17, 31⟩ : S56)] 31 true _ HN3.out HC.out (Kd.C_nil _ _) (by decide) b17).mono ?_); rintro e u1 ⟨v, rfl, ho, hb⟩; obtain ⟨A, c, rfl, hle, hcc⟩ := Kd.R_reads ho; have HY := Aside0.mk hcc; have HZ := Aside0.mk hle; have hbb := hb; have HB4 := Aside0.mk (below_step HB3.out hbb); have HN4 := Aside0.mk (Kd.C_below HN3.out hbb); have X0_4 := Aside0.mk (X0_3.out.below hbb); clear ho hb hbb hle hcc tok1 HB3 HN3 X0_3)
    | ((with_reducible refine gate_dst (N := 4) rfl ?_); go_loud (refine box2 4 rfl rfl rfl rfl rfl rfl #[.slice A _ c, .int .i64 31] info27 rfl rfl (by simp [Value.oneCell']) (by first | (go_simp; done) | (go_simp; rfl)) (by first | (go_simp; done) | (go_simp; rfl)) ?_); intro g1 y1 hg hblk hbw hs; have X1_5 := Aside0.mk (show BX y1 g1 A c 31 [(⟨1, 10, 17⟩ : S56), (⟨4, 17, 31⟩ : S56)] from ⟨hblk, Kd.C_below HY.out hbw, HZ.out⟩); have HB5 := Aside0.mk (below_step HB4.out hbw); have HN5 := Aside0.mk (Kd.C_below HN4.out hbw); have X0_5 := Aside0.mk (X0_4.out.below hbw); clear hg hblk hbw hs HY HZ HB4 HN4 X0_4)
    | (have _q := tok2.out; clear _q; go_at_call 15; go_loud (refine (least_Route.calls A0 c0 net17 1 3 0 7 100 (some _) 1 [2] [(⟨3, 30, 32⟩ : S56)] 32 true _ (Kd.C_below HN5.out (below_alloc (Below.refl _ _) _)) HC.out (litI (blk_new _ _)) (by decide) c17).mono ?_); rintro e u2 ⟨v, rfl, ho, hb⟩; obtain ⟨A, c, rfl, hle, hcc⟩ := Kd.R_reads ho; have HY := Aside0.mk hcc; have HZ := Aside0.mk hle; have hbb := below_step (below_alloc (Below.refl _ _) _) hb; have HB6 := Aside0.mk (below_step HB5.out hbb); have HN6 := Aside0.mk (Kd.C_below HN5.out hbb); have X0_6 := Aside0.mk (X0_5.out.below hbb); have X1_6 := Aside0.mk (X1_5.out.below hbb); clear ho hb hbb hle hcc tok2 HB5 HN5 X0_5 X1_5)
    | ((with_reducible refine gate_dst (N := 6) rfl ?_); go_loud (refine box2 6 rfl rfl rfl rfl rfl rfl #[.slice A _ c, .int .i64 32] info27 rfl rfl (by simp [Value.oneCell']) (by first | (go_simp; done) | (go_simp; rfl)) (by first | (go_simp; done) | (go_simp; rfl)) ?_); intro g2 y2 hg hblk hbw hs; have X2_7 := Aside0.mk (show BX y2 g2 A c 32 [(⟨3, 30, 32⟩ : S56)] from ⟨hblk, Kd.C_below HY.out hbw, HZ.out⟩); have HB7 := Aside0.mk (below_step HB6.out hbw); have HN7 := Aside0.mk (Kd.C_below HN6.out hbw); have X0_7 := Aside0.mk (X0_6.out.below hbw); have X1_7 := Aside0.mk (X1_6.out.below hbw); clear hg hblk hbw hs HY HZ HB6 HN6 X0_6 X1_6)
    | (have _q := tok3.out; clear _q; go_at_call 15; go_loud (refine (least_Route.calls A0 c0 net17 1 3 0 9 31 none 0 [] [] 0 false _ HN7.out HC.out (Kd.C_nil _ _) (by decide) d17).mono ?_); rintro e u3 ⟨v, rfl, ho, hb⟩; obtain ⟨A, c, rfl, hle, hcc⟩ := Kd.R_reads ho; have HY := Aside0.mk hcc; have HZ := Aside0.mk hle; have hbb := hb; have HB8 := Aside0.mk (below_step HB7.out hbb); have HN8 := Aside0.mk (Kd.C_below HN7.out hbb); have X0_8 := Aside0.mk (X0_7.out.below hbb); have X1_8 := Aside0.mk (X1_7.out.below hbb); have X2_8 := Aside0.mk (X2_7.out.below hbb); clear ho hb hbb hle hcc tok3 HB7 HN7 X0_7 X1_7 X2_7)
    | ((with_reducible refine gate_dst (N := 8) rfl ?_); go_loud (refine box2 8 rfl rfl rfl rfl rfl rfl #[.slice A _ c, .int .i64 0] info27 rfl rfl (by simp [Value.oneCell']) (by first | (go_simp; done) | (go_simp; rfl)) (by first | (go_simp; done) | (go_simp; rfl)) ?_); intro g3 y3 hg hblk hbw hs; have HB9 := Aside0.mk (below_step HB8.out hbw); have HN9 := Aside0.mk (Kd.C_below HN8.out hbw); have X0_9 := Aside0.mk (X0_8.out.below hbw); have X1_9 := Aside0.mk (X1_8.out.below hbw); have X2_9 := Aside0.mk (X2_8.out.below hbw); clear hg hblk hbw hs HY HZ HB8 HN8 X0_8 X1_8 X2_8)
    | (have _q := tok4.out; clear _q; go_at_call 15; go_loud (refine (least_Route.calls A0 c0 net17 2 2 5 9 5 none 0 [] [] 5 true _ HN9.out HC.out (Kd.C_nil _ _) (by decide) e17).mono ?_); rintro e u4 ⟨v, rfl, ho, hb⟩; obtain ⟨A, c, rfl, hle, hcc⟩ := Kd.R_reads ho; have HY := Aside0.mk hcc; have HZ := Aside0.mk hle; have hbb := hb; have HB10 := Aside0.mk (below_step HB9.out hbb); have HN10 := Aside0.mk (Kd.C_below HN9.out hbb); have X0_10 := Aside0.mk (X0_9.out.below hbb); have X1_10 := Aside0.mk (X1_9.out.below hbb); have X2_10 := Aside0.mk (X2_9.out.below hbb); clear ho hb hbb hle hcc tok4 HB9 HN9 X0_9 X1_9 X2_9)
    | ((with_reducible refine gate_dst (N := 10) rfl ?_); go_loud (refine box2 10 rfl rfl rfl rfl rfl rfl #[.slice A _ c, .int .i64 5] info27 rfl rfl (by simp [Value.oneCell']) (by first | (go_simp; done) | (go_simp; rfl)) (by first | (go_simp; done) | (go_simp; rfl)) ?_); intro g4 y4 hg hblk hbw hs; have X4_11 := Aside0.mk (show BX y4 g4 A c 5 [] from ⟨hblk, Kd.C_below HY.out hbw, HZ.out⟩); have HB11 := Aside0.mk (below_step HB10.out hbw); have HN11 := Aside0.mk (Kd.C_below HN10.out hbw); have X0_11 := Aside0.mk (X0_10.out.below hbw); have X1_11 := Aside0.mk (X1_10.out.below hbw); have X2_11 := Aside0.mk (X2_10.out.below hbw); clear hg hblk hbw hs HY HZ HB10 HN10 X0_10 X1_10 X2_10)
    | (have _q := tok5.out; clear _q; go_at_call 15; go_loud (refine (least_Route.calls A0 c0 net17 2 2 6 9 5 none 0 [] [] 0 false _ HN11.out HC.out (Kd.C_nil _ _) (by decide) f17).mono ?_); rintro e u5 ⟨v, rfl, ho, hb⟩; obtain ⟨A, c, rfl, hle, hcc⟩ := Kd.R_reads ho; have HY := Aside0.mk hcc; have HZ := Aside0.mk hle; have hbb := hb; have HB12 := Aside0.mk (below_step HB11.out hbb); have HN12 := Aside0.mk (Kd.C_below HN11.out hbb); have X0_12 := Aside0.mk (X0_11.out.below hbb); have X1_12 := Aside0.mk (X1_11.out.below hbb); have X2_12 := Aside0.mk (X2_11.out.below hbb); have X4_12 := Aside0.mk (X4_11.out.below hbb); clear ho hb hbb hle hcc tok5 HB11 HN11 X0_11 X1_11 X2_11 X4_11)
    | ((with_reducible refine gate_dst (N := 12) rfl ?_); go_loud (refine box2 12 rfl rfl rfl rfl rfl rfl #[.slice A _ c, .int .i64 0] info27 rfl rfl (by simp [Value.oneCell']) (by first | (go_simp; done) | (go_simp; rfl)) (by first | (go_simp; done) | (go_simp; rfl)) ?_); intro g5 y5 hg hblk hbw hs; have HB13 := Aside0.mk (below_step HB12.out hbw); have HN13 := Aside0.mk (Kd.C_below HN12.out hbw); have X0_13 := Aside0.mk (X0_12.out.below hbw); have X1_13 := Aside0.mk (X1_12.out.below hbw); have X2_13 := Aside0.mk (X2_12.out.below hbw); have X4_13 := Aside0.mk (X4_12.out.below hbw); clear hg hblk hbw hs HY HZ HB12 HN12 X0_12 X1_12 X2_12 X4_12)
    | (have _q := tok6.out; clear _q; go_at_call 15; go_loud (refine (least_Route.calls A0 c0 net17 1 3 0 9 100 (some _) 1 [3] [] 0 false _ (Kd.C_below HN13.out (below_alloc (Below.refl _ _) _)) HC.out (litI (blk_new _ _)) (by decide) g17).mono ?_); rintro e u6 ⟨v, rfl, ho, hb⟩; obtain ⟨A, c, rfl, hle, hcc⟩ := Kd.R_reads ho; have HY := Aside0.mk hcc; have HZ := Aside0.mk hle; have hbb := below_step (below_alloc (Below.refl _ _) _) hb; have HB14 := Aside0.mk (below_step HB13.out hbb); have HN14 := Aside0.mk (Kd.C_below HN13.out hbb); have X0_14 := Aside0.mk (X0_13.out.below hbb); have X1_14 := Aside0.mk (X1_13.out.below hbb); have X2_14 := Aside0.mk (X2_13.out.below hbb); have X4_14 := Aside0.mk (X4_13.out.below hbb); clear ho hb hbb hle hcc tok6 HB13 HN13 X0_13 X1_13 X2_13 X4_13)
    | ((with_reducible refine gate_dst (N := 14) rfl ?_); go_loud (refine box2 14 rfl rfl rfl rfl rfl rfl #[.slice A _ c, .int .i64 0] info27 rfl rfl (by simp [Value.oneCell']) (by first | (go_simp; done) | (go_simp; rfl)) (by first | (go_simp; done) | (go_simp; rfl)) ?_); intro g6 y6 hg hblk hbw hs; have HB15 := Aside0.mk (below_step HB14.out hbw); have HN15 := Aside0.mk (Kd.C_below HN14.out hbw); have X0_15 := Aside0.mk (X0_14.out.below hbw); have X1_15 := Aside0.mk (X1_14.out.below hbw); have X2_15 := Aside0.mk (X2_14.out.below hbw); have X4_15 := Aside0.mk (X4_14.out.below hbw); have x00 := X0_15.out.c0; have x01 := X0_15.out.c1; have x10 := X1_15.out.c0; have x11 := X1_15.out.c1; have x20 := X2_15.out.c0; have x21 := X2_15.out.c1; have x40 := X4_15.out.c0; have x41 := X4_15.out.c1; clear hg hblk hbw hs HY HZ HB14 HN14 X0_14 X1_14 X2_14 X4_14)
    | (have _q := sak0.out; clear _q; go_at_call 27; go_loud (refine (feluccaref12_Same.calls 9 _ _ [(⟨3, 30, 32⟩ : S56)] 32 (some _) 1 [(⟨3, 30, 32⟩ : S56)] 32 true _ (Kd.C_below X0_15.out.C (below_alloc (Below.refl _ _) _)) X0_15.out.L (lit56_1 (blk_new _ _)) (by decide) (by kernel_rfl)).mono ?_); rintro e z0 ⟨rfl, hb⟩; have hbb := below_step (below_alloc (Below.refl _ _) _) hb; have HB16 := Aside0.mk (below_step HB15.out hbb); have HN16 := Aside0.mk (Kd.C_below HN15.out hbb); have X0_16 := Aside0.mk (X0_15.out.below hbb); have X1_16 := Aside0.mk (X1_15.out.below hbb); have X2_16 := Aside0.mk (X2_15.out.below hbb); have X4_16 := Aside0.mk (X4_15.out.below hbb); clear x00 x01 x10 x11 x20 x21 x40 x41; have x00 := X0_16.out.c0; have x01 := X0_16.out.c1; have x10 := X1_16.out.c0; have x11 := X1_16.out.c1; have x20 := X2_16.out.c0; have x21 := X2_16.out.c1; have x40 := X4_16.out.c0; have x41 := X4_16.out.c1; clear hb hbb sak0 HB15 HN15 X0_15 X1_15 X2_15 X4_15)
    | (have _q := sak1.out; clear _q; go_at_call 27; go_loud (refine (feluccaref12_Same.calls 9 _ _ [(⟨1, 10, 17⟩ : S56), (⟨4, 17, 31⟩ : S56)] 31 (some _) 2 [(⟨1, 10, 17⟩ : S56), (⟨4, 17, 31⟩ : S56)] 31 true _ (Kd.C_below X1_16.out.C (below_alloc (Below.refl _ _) _)) X1_16.out.L (lit56_2 (blk_new _ _)) (by decide) (by kernel_rfl)).mono ?_); rintro e z1 ⟨rfl, hb⟩; have hbb := below_step (below_alloc (Below.refl _ _) _) hb; have HB17 := Aside0.mk (below_step HB16.out hbb); have HN17 := Aside0.mk (Kd.C_below HN16.out hbb); have X0_17 := Aside0.mk (X0_16.out.below hbb); have X1_17 := Aside0.mk (X1_16.out.below hbb); have X2_17 := Aside0.mk (X2_16.out.below hbb); have X4_17 := Aside0.mk (X4_16.out.below hbb); clear x00 x01 x10 x11 x20 x21 x40 x41; have x00 := X0_17.out.c0; have x01 := X0_17.out.c1; have x10 := X1_17.out.c0; have x11 := X1_17.out.c1; have x20 := X2_17.out.c0; have x21 := X2_17.out.c1; have x40 := X4_17.out.c0; have x41 := X4_17.out.c1; clear hb hbb sak1 HB16 HN16 X0_16 X1_16 X2_16 X4_16)
    | (have _q := sak2.out; clear _q; go_at_call 27; go_loud (refine (feluccaref12_Same.calls 9 _ _ [(⟨3, 30, 32⟩ : S56)] 32 (some _) 1 [(⟨3, 30, 32⟩ : S56)] 32 true _ (Kd.C_below X2_17.out.C (below_alloc (Below.refl _ _) _)) X2_17.out.L (lit56_1 (blk_new _ _)) (by decide) (by kernel_rfl)).mono ?_); rintro e z2 ⟨rfl, hb⟩; have hbb := below_step (below_alloc (Below.refl _ _) _) hb; have HB18 := Aside0.mk (below_step HB17.out hbb); have HN18 := Aside0.mk (Kd.C_below HN17.out hbb); have X0_18 := Aside0.mk (X0_17.out.below hbb); have X1_18 := Aside0.mk (X1_17.out.below hbb); have X2_18 := Aside0.mk (X2_17.out.below hbb); have X4_18 := Aside0.mk (X4_17.out.below hbb); clear x00 x01 x10 x11 x20 x21 x40 x41; have x00 := X0_18.out.c0; have x01 := X0_18.out.c1; have x10 := X1_18.out.c0; have x11 := X1_18.out.c1; have x20 := X2_18.out.c0; have x21 := X2_18.out.c1; have x40 := X4_18.out.c0; have x41 := X4_18.out.c1; clear hb hbb sak2 HB17 HN17 X0_17 X1_17 X2_17 X4_17)
    | (have _q := sak3.out; clear _q; go_at_call 27; go_loud (refine (feluccaref12_Same.calls 9 _ _ [] 5 none 0 [] 5 true _ X4_18.out.C X4_18.out.L (Kd.C_nil _ _) (by decide) (by kernel_rfl)).mono ?_); rintro e z3 ⟨rfl, hb⟩; have hbb := hb; have HB19 := Aside0.mk (below_step HB18.out hbb); have HN19 := Aside0.mk (Kd.C_below HN18.out hbb); have X0_19 := Aside0.mk (X0_18.out.below hbb); have X1_19 := Aside0.mk (X1_18.out.below hbb); have X2_19 := Aside0.mk (X2_18.out.below hbb); have X4_19 := Aside0.mk (X4_18.out.below hbb); clear x00 x01 x10 x11 x20 x21 x40 x41; have x00 := X0_19.out.c0; have x01 := X0_19.out.c1; have x10 := X1_19.out.c0; have x11 := X1_19.out.c1; have x20 := X2_19.out.c0; have x21 := X2_19.out.c1; have x40 := X4_19.out.c0; have x41 := X4_19.out.c1; clear hb hbb sak3 HB18 HN18 X0_18 X1_18 X2_18 X4_18))
  go_ret
  exact ⟨rfl, HB19.out⟩
end Go.Proofs.Ytijflnpgiegajaa.Q
end
section
namespace Go.Proofs.Ytijflnpgiegajaa.Q
open Go.RowKit Go.Proofs.YtijflnpgiegajaaW.PrintWords Go.Proofs.YtijflnpgiegajaaW.PrintLast Go.Proofs.YtijflnpgiegajaaW.PrintMore
attribute [local go_sem] max2_int min2_int max_two min_two
set_option linter.unusedVariables false
set_option linter.unusedSimpArgs false
mutual
def feluccalaw17_LeastBeats.j0 : Nat → List (S65) → List Int → Int → Int → Int → Int → Int → Bool → Bool → Option (Bool)
  | 0, _, _, _, _, _, _, _, _, _ => none
  | k + 1, x0, x1, x2, x3, x4, x5, x6, x15, x28 => if x28 = true then (some x15) else ((least_Route.f x0 x2 x3 x4 x5 x6 ([] : List Int)).bind fun bt299 => ((path_Route.f x0 x1 x2 x3 x4 x5).bind fun bt305 => (if bt305.2.2 = true then (feluccalaw17_LeastBeats.j1 k x15 bt299.2.2 (decide (bt305.2.1 > x6)) bt299.1 bt299.2.1 bt305.1 bt305.2.1) else (feluccalaw17_LeastBeats.j1 k x15 bt299.2.2 true bt299.1 bt299.2.1 bt305.1 bt305.2.1))))
def feluccalaw17_LeastBeats.j1 : Nat → Bool → Bool → Bool → List (S56) → Int → List (S56) → Int → Option (Bool)
  | 0, _, _, _, _, _, _, _ => none
  | k + 1, x15, x17, x57, x305000, x305001, x311000, x311001 => if x57 = true then (some x15) else (if x15 = true then (if x17 = true then ((order_Compare.f k x305000 x305001 x311000 x311001).bind fun t311 => (if t311 ≤ 0 then ((order_Compare.f k x305000 x305001 x311000 x311001).bind fun t312 => (if t312 = 0 then ((path_Same.f k x305000 x305001 x311000 x311001).bind fun t313 => (some t313)) else (some true))) else (some false))) else (some false)) else (some false))
end
def feluccalaw17_LeastBeats.f (k : Nat) (l0 : List (S65)) (l1 : List Int) (a2 : Int) (a3 : Int) (a4 : Int) (a5 : Int) (a6 : Int) : Option (Bool) := (feluccalaw17_small.f).bind fun t298 => (if (l0.length : Int) > 30 then (feluccalaw17_LeastBeats.j0 k l0 l1 a2 a3 a4 a5 a6 t298 true) else (feluccalaw17_LeastBeats.j0 k l0 l1 a2 a3 a4 a5 a6 t298 (decide ((l1.length : Int) > 20))))
set_option maxHeartbeats 8000000 in
set_option maxRecDepth 100000 in
theorem feluccalaw17_LeastBeats.calls (k : Nat) (A0 : Option Addr) (c0 : Nat) (l0 : List (S65)) (A1 : Option Addr) (c1 : Nat) (l1 : List Int) (a2 : Int) (a3 : Int) (a4 : Int) (a5 : Int) (a6 : Int) (r : Bool) (w : World) (hr0 : Kd.C k65 w A0 l0.length l0) (hc0 : l0.length ≤ c0) (hr1 : Kd.C (Kd.int .i64) w A1 l1.length l1) (hc1 : l1.length ≤ c1) (h : feluccalaw17_LeastBeats.f k l0 l1 a2 a3 a4 a5 a6 = some r) :
    Calls Try.prog 5 #[.slice A0 l0.length c0, .slice A1 l1.length c1, .int .i64 a2, .int .i64 a3, .int .i64 a4, .int .i64 a5, .int .i64 a6] w fun e w' => e = .returned (.bool r) ∧ Below w.heap.size w w' := by
  have hu27 := Try.underlying27
  have HR0 := Aside0.mk hr0
  have HC0 := Aside0.mk hc0
  clear hr0 hc0
  have HR1 := Aside0.mk hr1
  have HC1 := Aside0.mk hc1
  clear hr1 hc1
  have HB := Aside0.mk (Below.refl w.heap.size w)
  have H : ((feluccalaw17_small.f).bind fun t298 => (if (l0.length : Int) > 30 then (feluccalaw17_LeastBeats.j0 k l0 l1 a2 a3 a4 a5 a6 t298 true) else (feluccalaw17_LeastBeats.j0 k l0 l1 a2 a3 a4 a5 a6 t298 (decide ((l1.length : Int) > 20))))) = some r := h
  clear h
  replace H := Option.bind_eq_some_iff.mp H
  obtain ⟨t298, A80, H⟩ := H
  replace H : (if (l0.length : Int) > 30 then (feluccalaw17_LeastBeats.j0 k l0 l1 a2 a3 a4 a5 a6 t298 true) else (feluccalaw17_LeastBeats.j0 k l0 l1 a2 a3 a4 a5 a6 t298 (decide ((l1.length : Int) > 20)))) = some r := H
  have A8 := Aside0.mk A80
  clear A80
  have HC9 := Aside0.mk H
  clear H
  go_enter Try.func5, Try.ntmps5
  go_upto_region 2 with (first | ((with_reducible refine gate_callee (f := 14) rfl ?_); refine goesL_ (some 20) rfl rfl Try.func14 (by kernel_rfl) rfl #[] rfl (by (try simp only [List.map_toArray, List.map_cons, List.map_nil]); first | done | rfl | (simp only [List.length_drop, List.length_take]; rfl)) ?_; (with_reducible refine (feluccalaw17_small.calls  t298 _ A8.out).mono ?_); rintro e w10 ⟨rfl, hb⟩; refine ⟨_, rfl, ?_⟩; have n0_ := Aside0.mk (below_step (by repeat (first | (with_reducible first | exact HB.out | apply below_alloc | apply pw_below_drewN | apply below_drew1) | exact HB.out)) hb); clear HB; have HB := n0_; clear n0_; (try clear hb); (try clear hb2); (try clear hk); (try clear hi)))
  (try simp only [Act.put, List.setIfInBounds_toArray, List.set_cons_zero, List.set_cons_succ])
  go_cut [28] (fun v28 wc => ∃ (kq : Nat) (x28_8 : Bool), v28 = .bool x28_8 ∧ Aside0 (feluccalaw17_LeastBeats.j0 kq l0 l1 a2 a3 a4 a5 a6 t298 x28_8 = some r) ∧ Aside0 (kq ≤ k) ∧ Aside0 (Below w.heap.size w wc))
  case first =>
    have H := HC9.out
    clear HC9
    by_cases c11 : (l0.length : Int) > 30
    · rw [if_pos c11] at H
      have c11b0 : decide (30 < (l0.length : Int)) = true := decide_eq_true c11
      have c11b1 : decide (30 < l0.length) = true := decide_eq_true (by omega)
      clear c11
      (first | rw [c11b0] | (simp only [i64_w, i32_w]; rw [c11b0]) | skip)
      have H' := Aside0.mk H
      clear H
      go_wp2
      go_meet
      case rel => exact ⟨_, (true), (by first | rfl | (simp; done) | (simp [*]; done)), H', ⟨by first | omega | exact Nat.le_refl _⟩, ⟨by repeat (first | (with_reducible first | exact HB.out | apply below_alloc | apply pw_below_drewN | apply below_drew1) | exact HB.out)⟩⟩
    · rw [if_neg c11] at H
      have c11b0 : decide (30 < (l0.length : Int)) = false := decide_eq_false c11
      have c11b1 : decide (30 < l0.length) = false := decide_eq_false (by omega)
      clear c11
      (first | rw [c11b0] | (simp only [i64_w, i32_w]; rw [c11b0]) | skip)
      have H' := Aside0.mk H
      clear H
      go_wp2
      go_meet
      case rel => exact ⟨_, (decide ((l1.length : Int) > 20)), (by first | rfl | (simp; done) | (simp [*]; done)), H', ⟨by first | omega | exact Nat.le_refl _⟩, ⟨by repeat (first | (with_reducible first | exact HB.out | apply below_alloc | apply pw_below_drewN | apply below_drew1) | exact HB.out)⟩⟩
  case rest =>
    clear HC9
    try clear c1
    try clear p2
    try clear c5
    try clear c11
    try clear c11b0
    try clear c11b1
    obtain ⟨kq, x28_8, rfl, HA, HJ8, HB⟩ := hcut
    cases kq with
    | zero => exact absurd HA.out (by simp [feluccalaw17_LeastBeats.j0])
    | succ kj8 =>
      have H := HA.out
      clear HA
      simp only [feluccalaw17_LeastBeats.j0] at H
      by_cases c12 : x28_8 = true
      · subst c12
        have H1 : (some t298) = some r := by rw [if_pos rfl] at H; exact H
        clear H
        have H := H1
        clear H1
        obtain rfl := Option.some.inj H
        go_wp2
        go_ret
        exact ⟨by first | rfl | (simp [errW_none, errW_some] <;> rfl) | (simp [*, errW_none, errW_some] <;> rfl), by repeat (first | (with_reducible first | exact HB.out | apply below_alloc | apply pw_below_drewN | apply below_drew1) | exact HB.out)⟩
      · replace c12 := Bool.eq_false_iff.mpr c12
        subst c12
        have H1 : ((least_Route.f l0 a2 a3 a4 a5 a6 ([] : List Int)).bind fun bt299 => ((path_Route.f l0 l1 a2 a3 a4 a5).bind fun bt305 => (if bt305.2.2 = true then (feluccalaw17_LeastBeats.j1 kj8 t298 bt299.2.2 (decide (bt305.2.1 > a6)) bt299.1 bt299.2.1 bt305.1 bt305.2.1) else (feluccalaw17_LeastBeats.j1 kj8 t298 bt299.2.2 true bt299.1 bt299.2.1 bt305.1 bt305.2.1)))) = some r := by rw [if_neg (show ¬ (false = true) by decide)] at H; exact H
        clear H
        have H := H1
        clear H1
        replace H := Option.bind_eq_some_iff.mp H
        obtain ⟨⟨t299, t302, t303⟩, A130, H⟩ := H
        replace H : ((path_Route.f l0 l1 a2 a3 a4 a5).bind fun bt305 => (if bt305.2.2 = true then (feluccalaw17_LeastBeats.j1 kj8 t298 t303 (decide (bt305.2.1 > a6)) t299 t302 bt305.1 bt305.2.1) else (feluccalaw17_LeastBeats.j1 kj8 t298 t303 true t299 t302 bt305.1 bt305.2.1))) = some r := H
        have A13 := Aside0.mk A130
        clear A130
        replace H := Option.bind_eq_some_iff.mp H
        obtain ⟨⟨t305, t308, t309⟩, A140, H⟩ := H
        replace H : (if t309 = true then (feluccalaw17_LeastBeats.j1 kj8 t298 t303 (decide (t308 > a6)) t299 t302 t305 t308) else (feluccalaw17_LeastBeats.j1 kj8 t298 t303 true t299 t302 t305 t308)) = some r := H
        have A14 := Aside0.mk A140
        clear A140
        have HC15 := Aside0.mk H
        clear H
        go_upto_region 6 with (first | ((with_reducible refine gate_callee (f := 15) rfl ?_); refine goesL_ (some 37) rfl rfl Try.func15 (by kernel_rfl) rfl #[.slice A0 l0.length c0, .int .i64 a2, .int .i64 a3, .int .i64 a4, .int .i64 a5, .int .i64 a6, .slice none 0 0] rfl (by (try simp only [List.map_toArray, List.map_cons, List.map_nil]); first | done | rfl | (simp only [List.length_drop, List.length_take]; rfl)) ?_; (refine (least_Route.calls _ _ l0 a2 a3 a4 a5 a6 _ _ ([] : List Int) t299 t302 t303 _ ?side1 ?side2 ?side3 ?side4 A13.out).mono ?_); (case side1 => repeat (first | exact (Kd.C_below HR0.out HB.out) | (with_reducible refine Kd.C_alloc ?_ _) | (with_reducible refine Kd.C_drewN ?_ _) | (with_reducible refine Kd.C_drew ?_))); (case side2 => exact HC0.out); (case side3 => exact Kd.C_nil _ _); (case side4 => exact Nat.le_refl _); rintro e w16 ⟨v300, rfl, ho0, hb⟩; refine ⟨_, rfl, ?_⟩; have n0_ := Aside0.mk (Kd.R_lower ho0 (below_size (by repeat (first | (with_reducible first | exact HB.out | apply below_alloc | apply pw_below_drewN | apply below_drew1) | exact HB.out)))); have n1_ := Aside0.mk (below_step (by repeat (first | (with_reducible first | exact HB.out | apply below_alloc | apply pw_below_drewN | apply below_drew1) | exact HB.out)) hb); clear HB; have HO301 := n0_; have HB := n1_; clear n0_ n1_; (try clear hb); (try clear hb2); (try clear hk); (try clear hi); (try clear ho0)) | ((with_reducible refine gate_dst (N := 16) rfl ?_); (try (refine gate_guard (by rfl) ?_; dsimp only)); refine box_event ?hg (N := 16) ?hd (cs := #[.slice none 0 0, .int .i64 0]) (t := 27) ?hr ?_; (case hd => rfl); (case hg => rfl); (case hr => first | (go_simp; done) | (go_simp; rfl)); intro gb304 hg w17 hbox hb; have n0_ := Aside0.mk (Kd.R_below (by (with_reducible repeat (first | apply Kd.R_alloc | apply Kd.R_drewN | apply Kd.R_drew)); exact HO301.out) hb); have n1_ := Aside0.mk (below_step (by repeat (first | (with_reducible first | exact HB.out | apply below_alloc | apply pw_below_drewN | apply below_drew1) | exact HB.out)) hb); have n2_ := Aside0.mk (hbox); have n3_ := Aside0.mk ((by rw [hg]; exact (below_size (by repeat (first | (with_reducible first | exact HB.out | apply below_alloc | apply pw_below_drewN | apply below_drew1) | exact HB.out))) : w.heap.size ≤ gb304)); have n4_ := Aside0.mk ((by rw [hg]; exact (below_size (by repeat (first | (with_reducible first | exact HB.out | apply below_alloc | apply pw_below_drewN | apply below_drew1) | exact HB.out))) : w.heap.size ≤ gb304)); clear HO301; clear HB; have HO301 := n0_; have HB := n1_; have BK304 := n2_; have GW304 := n3_; have GE304 := n4_; clear n0_ n1_ n2_ n3_ n4_; clear hb hbox hg; obtain ⟨Ao18, co18, eo18⟩ := Kd.R_slice HO301.out; subst eo18; have hcz19_0 : w17.cell? ⟨gb304, 0, none⟩ = some (.slice none 0 0) := (blk_cell BK304.out 0).trans rfl; have hcz19_1 : w17.cell? ⟨gb304, 1, none⟩ = some (.int .i64 0) := (blk_cell BK304.out 1).trans rfl; have hfz19_0 := blk_frozen BK304.out 0; have hfz19_1 := blk_frozen BK304.out 1) | ((with_reducible refine gate_callee (f := 22) rfl ?_); refine goesL_ (some 47) rfl rfl Try.func22 (by kernel_rfl) rfl #[.slice A0 l0.length c0, .slice A1 l1.length c1, .int .i64 a2, .int .i64 a3, .int .i64 a4, .int .i64 a5] rfl (by (try simp only [List.map_toArray, List.map_cons, List.map_nil]); first | done | rfl | (simp only [List.length_drop, List.length_take]; rfl)) ?_; (with_reducible refine (path_Route.calls _ _ l0 _ _ l1 a2 a3 a4 a5 t305 t308 t309 _ ?side1 ?side2 ?side3 ?side4 A14.out).mono ?_); (case side1 => exact Kd.C_below HR0.out (by repeat (first | (with_reducible first | exact HB.out | apply below_alloc | apply pw_below_drewN | apply below_drew1 | refine below_set ?_ GE304.out) | exact HB.out))); (case side2 => exact HC0.out); (case side3 => exact Kd.C_below HR1.out (by repeat (first | (with_reducible first | exact HB.out | apply below_alloc | apply pw_below_drewN | apply below_drew1 | refine below_set ?_ GE304.out) | exact HB.out))); (case side4 => exact HC1.out); rintro e w20 ⟨v306, rfl, ho0, hb⟩; refine ⟨_, rfl, ?_⟩; have n0_ := Aside0.mk (Kd.R_elder' (by (with_reducible repeat (first | apply Kd.R_alloc | apply Kd.R_drewN | apply Kd.R_drew)); exact (Kd.R_mono (Kd.R_far (p := ⟨gb304, 1, none⟩) (Kd.R_far (p := ⟨gb304, 0, none⟩) (Kd.R_types HO301.out BK304.out (by decide)) (fun _ hk => hk.2) (.slice Ao18 t299.length co18)) (fun _ hk => hk.2) (.int .i64 t302)) (fun _ h_ => h_.1))) (Kd.R_base ho0) hb); have n1_ := Aside0.mk (Kd.R_lower (Kd.R_new' ho0 (Kd.R_lt (by (with_reducible repeat (first | apply Kd.R_alloc | apply Kd.R_drewN | apply Kd.R_drew)); exact (Kd.R_mono (Kd.R_far (p := ⟨gb304, 1, none⟩) (Kd.R_far (p := ⟨gb304, 0, none⟩) (Kd.R_types HO301.out BK304.out (by decide)) (fun _ hk => hk.2) (.slice Ao18 t299.length co18)) (fun _ hk => hk.2) (.int .i64 t302)) (fun _ h_ => h_.1))))) (below_size (by repeat (first | (with_reducible first | exact HB.out | apply below_alloc | apply pw_below_drewN | apply below_drew1 | refine below_set ?_ GE304.out) | exact HB.out)))); have n2_ := Aside0.mk (blk_below (g := gb304) (o := .cells #[.slice Ao18 t299.length co18, .int .i64 t302] 27 (0, 0)) (by (with_reducible repeat (first | refine blk_drewN ?_ _ | refine blk_drew ?_ | refine blk_alloc ?_ _)); refine blk_put (cs := #[.slice Ao18 t299.length co18, .int .i64 0]) ?_ 1 _ rfl; (with_reducible repeat (first | refine blk_drewN ?_ _ | refine blk_drew ?_ | refine blk_alloc ?_ _)); refine blk_put (cs := #[.slice none 0 0, .int .i64 0]) ?_ 0 _ rfl; (with_reducible repeat (first | refine blk_drewN ?_ _ | refine blk_drew ?_ | refine blk_alloc ?_ _)); exact BK304.out) hb); have n3_ := Aside0.mk (below_step (by repeat (first | (with_reducible first | exact HB.out | apply below_alloc | apply pw_below_drewN | apply below_drew1 | refine below_set ?_ GE304.out) | exact HB.out)) hb); clear HO301; clear BK304; clear HB; have HO301 := n0_; have HO307 := n1_; have BK304 := n2_; have HB := n3_; clear n0_ n1_ n2_ n3_; (try clear hb); (try clear hb2); (try clear hk); (try clear hi); (try clear ho0)) | ((with_reducible refine gate_dst (N := 18) rfl ?_); (try (refine gate_guard (by rfl) ?_; dsimp only)); refine box_event ?hg (N := 18) ?hd (cs := #[.slice none 0 0, .int .i64 0]) (t := 27) ?hr ?_; (case hd => rfl); (case hg => rfl); (case hr => first | (go_simp; done) | (go_simp; rfl)); intro gb310 hg w21 hbox hb; have n0_ := Aside0.mk (Kd.R_below (by (with_reducible repeat (first | apply Kd.R_alloc | apply Kd.R_drewN | apply Kd.R_drew)); exact HO301.out) hb); have n1_ := Aside0.mk (Kd.R_below (by (with_reducible repeat (first | apply Kd.R_alloc | apply Kd.R_drewN | apply Kd.R_drew)); exact HO307.out) hb); have n2_ := Aside0.mk (blk_below (g := gb304) (o := .cells #[.slice Ao18 t299.length co18, .int .i64 t302] 27 (0, 0)) (by (with_reducible repeat (first | refine blk_drewN ?_ _ | refine blk_drew ?_ | refine blk_alloc ?_ _)); exact BK304.out) hb); have n3_ := Aside0.mk (below_step (by repeat (first | (with_reducible first | exact HB.out | apply below_alloc | apply pw_below_drewN | apply below_drew1 | refine below_set ?_ GE304.out) | exact HB.out)) hb); have n4_ := Aside0.mk (hbox); have n5_ := Aside0.mk ((by rw [hg]; exact (below_size (by repeat (first | (with_reducible first | exact HB.out | apply below_alloc | apply pw_below_drewN | apply below_drew1 | refine below_set ?_ GE304.out) | exact HB.out))) : w.heap.size ≤ gb310)); have n6_ := Aside0.mk ((by rw [hg]; exact (below_size (by repeat (first | (with_reducible first | exact HB.out | apply below_alloc | apply pw_below_drewN | apply below_drew1 | refine below_set ?_ GE304.out) | exact HB.out))) : w.heap.size ≤ gb310)); have n7_ := Aside0.mk ((by rw [hg]; exact Nat.ne_of_lt (blk_lt (g := gb304) (o := .cells #[.slice Ao18 t299.length co18, .int .i64 t302] 27 (0, 0)) (by (with_reducible repeat (first | refine blk_drewN ?_ _ | refine blk_drew ?_ | refine blk_alloc ?_ _)); exact BK304.out)) : gb304 ≠ gb310)); have n8_ := Aside0.mk ((by rw [hg]; exact Nat.ne_of_gt (blk_lt (g := gb304) (o := .cells #[.slice Ao18 t299.length co18, .int .i64 t302] 27 (0, 0)) (by (with_reducible repeat (first | refine blk_drewN ?_ _ | refine blk_drew ?_ | refine blk_alloc ?_ _)); exact BK304.out)) : gb310 ≠ gb304)); clear HO301; clear HO307; clear BK304; clear HB; have HO301 := n0_; have HO307 := n1_; have BK304 := n2_; have HB := n3_; have BK310 := n4_; have GW310 := n5_; have GE310 := n6_; have NB304_310 := n7_; have NB310_304 := n8_; clear n0_ n1_ n2_ n3_ n4_ n5_ n6_ n7_ n8_; clear hb hbox hg; obtain ⟨Ao22, co22, eo22⟩ := Kd.R_slice HO307.out; subst eo22; have hnb23 := NB310_304.out; have hnc23 := NB304_310.out; have hcz24_0 : w21.cell? ⟨gb310, 0, none⟩ = some (.slice none 0 0) := (blk_cell BK310.out 0).trans rfl; have hcz24_1 : w21.cell? ⟨gb310, 1, none⟩ = some (.int .i64 0) := (blk_cell BK310.out 1).trans rfl; have hfz24_0 := blk_frozen BK310.out 0; have hfz24_1 := blk_frozen BK310.out 1))
        (try simp only [Act.put, List.setIfInBounds_toArray, List.set_cons_zero, List.set_cons_succ])
        go_cut [57] (fun v57 wc => ∃ (kq : Nat) (x57_14 : Bool), v57 = .bool x57_14 ∧ Aside0 (feluccalaw17_LeastBeats.j1 kq t298 t303 x57_14 t299 t302 t305 t308 = some r) ∧ Aside0 (kq ≤ kj8) ∧ Aside0 (Kd.R k56 56 wc w.heap.size (fun k_ => some k_ ≠ ((.slice Ao22 t305.length co22) : Value).ownBlock) (.slice Ao18 t299.length co18) t299) ∧ Aside0 (Kd.R k56 56 wc w.heap.size (fun k_ => some k_ ≠ ((.slice Ao18 t299.length co18) : Value).ownBlock) (.slice Ao22 t305.length co22) t305) ∧ Aside0 (wc.heap[gb304]? = some (.cells #[(.slice Ao18 t299.length co18), .int .i64 t302] 27 (0, 0))) ∧ Aside0 (wc.heap[gb310]? = some (.cells #[(.slice Ao22 t305.length co22), .int .i64 t308] 27 (0, 0))) ∧ Aside0 (Below w.heap.size w wc))
        case first =>
          have H := HC15.out
          clear HC15
          by_cases c25 : t309 = true
          · subst c25
            have H1 : (feluccalaw17_LeastBeats.j1 kj8 t298 t303 (decide (t308 > a6)) t299 t302 t305 t308) = some r := by rw [if_pos rfl] at H; exact H
            clear H
            have H := H1
            clear H1
            have H' := Aside0.mk H
            clear H
            have hnb26 := NB310_304.out
            have hnc26 := NB304_310.out
            have hcz27_0 : w21.cell? ⟨gb310, 0, none⟩ = some (.slice none 0 0) := (blk_cell BK310.out 0).trans rfl
            have hcz27_1 : w21.cell? ⟨gb310, 1, none⟩ = some (.int .i64 0) := (blk_cell BK310.out 1).trans rfl
            have hfz27_0 := blk_frozen BK310.out 0
            have hfz27_1 := blk_frozen BK310.out 1
            go_wp2
            go_meet
            case rel => exact ⟨_, (decide (t308 > a6)), (by first | rfl | (simp; done) | (simp [*]; done)), H', ⟨by have := HJ8.out; first | omega | exact Nat.le_refl _⟩, ⟨by (with_reducible repeat (first | apply Kd.R_alloc | apply Kd.R_drewN | apply Kd.R_drew)); exact Kd.R_mono (Kd.R_far (p := ⟨gb310, 1, none⟩) (Kd.R_far (p := ⟨gb310, 0, none⟩) (Kd.R_types HO301.out BK310.out (by decide)) (fun _ hk => hk.2) (.slice Ao22 t305.length co22)) (fun _ hk => hk.2) (.int .i64 t308)) (fun _ hk => hk.1.2)⟩, ⟨by (with_reducible repeat (first | apply Kd.R_alloc | apply Kd.R_drewN | apply Kd.R_drew)); exact Kd.R_mono (Kd.R_far (p := ⟨gb310, 1, none⟩) (Kd.R_far (p := ⟨gb310, 0, none⟩) (Kd.R_types HO307.out BK310.out (by decide)) (fun _ hk => hk.2) (.slice Ao22 t305.length co22)) (fun _ hk => hk.2) (.int .i64 t308)) (fun _ hk => hk.1.2)⟩, ⟨by (with_reducible repeat (first | refine blk_drewN ?_ _ | refine blk_drew ?_ | refine blk_alloc ?_ _)); refine blk_far ?_ NB304_310.out _; (with_reducible repeat (first | refine blk_drewN ?_ _ | refine blk_drew ?_ | refine blk_alloc ?_ _)); refine blk_far ?_ NB304_310.out _; (with_reducible repeat (first | refine blk_drewN ?_ _ | refine blk_drew ?_ | refine blk_alloc ?_ _)); exact BK304.out⟩, ⟨by (with_reducible repeat (first | refine blk_drewN ?_ _ | refine blk_drew ?_ | refine blk_alloc ?_ _)); refine blk_put (cs := #[.slice Ao22 t305.length co22, .int .i64 0]) ?_ 1 _ rfl; (with_reducible repeat (first | refine blk_drewN ?_ _ | refine blk_drew ?_ | refine blk_alloc ?_ _)); refine blk_put (cs := #[.slice none 0 0, .int .i64 0]) ?_ 0 _ rfl; (with_reducible repeat (first | refine blk_drewN ?_ _ | refine blk_drew ?_ | refine blk_alloc ?_ _)); exact BK310.out⟩, ⟨by repeat (first | (with_reducible first | exact HB.out | apply below_alloc | apply pw_below_drewN | apply below_drew1 | refine below_set ?_ GE304.out | refine below_set ?_ GE310.out) | exact HB.out)⟩⟩
          · replace c25 := Bool.eq_false_iff.mpr c25
            subst c25
            have H1 : (feluccalaw17_LeastBeats.j1 kj8 t298 t303 true t299 t302 t305 t308) = some r := by rw [if_neg (show ¬ (false = true) by decide)] at H; exact H
            clear H
            have H := H1
            clear H1
            have H' := Aside0.mk H
            clear H
            go_wp2
            go_meet
            case rel => exact ⟨_, (true), (by first | rfl | (simp; done) | (simp [*]; done)), H', ⟨by have := HJ8.out; first | omega | exact Nat.le_refl _⟩, ⟨by (with_reducible repeat (first | apply Kd.R_alloc | apply Kd.R_drewN | apply Kd.R_drew)); exact Kd.R_mono (Kd.R_far (p := ⟨gb310, 1, none⟩) (Kd.R_far (p := ⟨gb310, 0, none⟩) (Kd.R_types HO301.out BK310.out (by decide)) (fun _ hk => hk.2) (.slice Ao22 t305.length co22)) (fun _ hk => hk.2) (.int .i64 t308)) (fun _ hk => hk.1.2)⟩, ⟨by (with_reducible repeat (first | apply Kd.R_alloc | apply Kd.R_drewN | apply Kd.R_drew)); exact Kd.R_mono (Kd.R_far (p := ⟨gb310, 1, none⟩) (Kd.R_far (p := ⟨gb310, 0, none⟩) (Kd.R_types HO307.out BK310.out (by decide)) (fun _ hk => hk.2) (.slice Ao22 t305.length co22)) (fun _ hk => hk.2) (.int .i64 t308)) (fun _ hk => hk.1.2)⟩, ⟨by (with_reducible repeat (first | refine blk_drewN ?_ _ | refine blk_drew ?_ | refine blk_alloc ?_ _)); refine blk_far ?_ NB304_310.out _; (with_reducible repeat (first | refine blk_drewN ?_ _ | refine blk_drew ?_ | refine blk_alloc ?_ _)); refine blk_far ?_ NB304_310.out _; (with_reducible repeat (first | refine blk_drewN ?_ _ | refine blk_drew ?_ | refine blk_alloc ?_ _)); exact BK304.out⟩, ⟨by (with_reducible repeat (first | refine blk_drewN ?_ _ | refine blk_drew ?_ | refine blk_alloc ?_ _)); refine blk_put (cs := #[.slice Ao22 t305.length co22, .int .i64 0]) ?_ 1 _ rfl; (with_reducible repeat (first | refine blk_drewN ?_ _ | refine blk_drew ?_ | refine blk_alloc ?_ _)); refine blk_put (cs := #[.slice none 0 0, .int .i64 0]) ?_ 0 _ rfl; (with_reducible repeat (first | refine blk_drewN ?_ _ | refine blk_drew ?_ | refine blk_alloc ?_ _)); exact BK310.out⟩, ⟨by repeat (first | (with_reducible first | exact HB.out | apply below_alloc | apply pw_below_drewN | apply below_drew1 | refine below_set ?_ GE304.out | refine below_set ?_ GE310.out) | exact HB.out)⟩⟩
        case rest =>
          clear HC15
          try clear c1
          try clear c2
          try clear p2
          try clear c5
          try clear c11
          try clear c11b0
          try clear c11b1
          try clear c12
          try clear c14
          try clear c15
          try clear c22
          try clear c23
          try clear c25
          try clear c26
          try clear hcz19_0
          try clear hcz19_1
          try clear hcz24_0
          try clear hcz24_1
          try clear hcz27_0
          try clear hcz27_1
          try clear hfz19_0
          try clear hfz19_1
          try clear hfz24_0
          try clear hfz24_1
          try clear hfz27_0
          try clear hfz27_1
          try clear p2
          obtain ⟨kq, x57_14, rfl, HA, HJ14, HO_305000, HO_311000, BK304, BK310, HB⟩ := hcut
          cases kq with
          | zero => exact absurd HA.out (by simp [feluccalaw17_LeastBeats.j1])
          | succ kj14 =>
            have H := HA.out
            clear HA
            simp only [feluccalaw17_LeastBeats.j1] at H
            by_cases c28 : x57_14 = true
            · subst c28
              have H1 : (some t298) = some r := by rw [if_pos rfl] at H; exact H
              clear H
              have H := H1
              clear H1
              obtain rfl := Option.some.inj H
              go_wp2
              go_ret
              exact ⟨by first | rfl | (simp [errW_none, errW_some] <;> rfl) | (simp [*, errW_none, errW_some] <;> rfl), by repeat (first | (with_reducible first | exact HB.out | apply below_alloc | apply pw_below_drewN | apply below_drew1 | refine below_set ?_ GE304.out | refine below_set ?_ GE310.out) | exact HB.out)⟩
            · replace c28 := Bool.eq_false_iff.mpr c28
              subst c28
              have H1 : (if t298 = true then (if t303 = true then ((order_Compare.f kj14 t299 t302 t305 t308).bind fun t311 => (if t311 ≤ 0 then ((order_Compare.f kj14 t299 t302 t305 t308).bind fun t312 => (if t312 = 0 then ((path_Same.f kj14 t299 t302 t305 t308).bind fun t313 => (some t313)) else (some true))) else (some false))) else (some false)) else (some false)) = some r := by rw [if_neg (show ¬ (false = true) by decide)] at H; exact H
              clear H
              have H := H1
              clear H1
              by_cases c29 : t298 = true
              · subst c29
                have H1 : (if t303 = true then ((order_Compare.f kj14 t299 t302 t305 t308).bind fun t311 => (if t311 ≤ 0 then ((order_Compare.f kj14 t299 t302 t305 t308).bind fun t312 => (if t312 = 0 then ((path_Same.f kj14 t299 t302 t305 t308).bind fun t313 => (some t313)) else (some true))) else (some false))) else (some false)) = some r := by rw [if_pos rfl] at H; exact H
                clear H
                have H := H1
                clear H1
                by_cases c30 : t303 = true
                · subst c30
                  have H1 : ((order_Compare.f kj14 t299 t302 t305 t308).bind fun t311 => (if t311 ≤ 0 then ((order_Compare.f kj14 t299 t302 t305 t308).bind fun t312 => (if t312 = 0 then ((path_Same.f kj14 t299 t302 t305 t308).bind fun t313 => (some t313)) else (some true))) else (some false))) = some r := by rw [if_pos rfl] at H; exact H
                  clear H
                  have H := H1
                  clear H1
                  replace H := Option.bind_eq_some_iff.mp H
                  obtain ⟨t311, A310, H⟩ := H
                  replace H : (if t311 ≤ 0 then ((order_Compare.f kj14 t299 t302 t305 t308).bind fun t312 => (if t312 = 0 then ((path_Same.f kj14 t299 t302 t305 t308).bind fun t313 => (some t313)) else (some true))) else (some false)) = some r := H
                  have A31 := Aside0.mk A310
                  clear A310
                  by_cases c32 : t311 ≤ 0
                  · rw [if_pos c32] at H
                    have c32b0 : decide (t311 ≤ 0) = true := decide_eq_true c32
                    clear c32
                    replace H := Option.bind_eq_some_iff.mp H
                    obtain ⟨t312, A330, H⟩ := H
                    obtain rfl : t311 = t312 := Option.some.inj (A31.out.symm.trans A330)
                    replace H : (if t311 = 0 then ((path_Same.f kj14 t299 t302 t305 t308).bind fun t313 => (some t313)) else (some true)) = some r := H
                    have A33 := Aside0.mk A330
                    clear A330
                    by_cases c34 : t311 = 0
                    · rw [if_pos c34] at H
                      have c34b0 : (t311 == 0) = true := beq_iff_eq.mpr c34
                      have c34b1 : (t311 != 0) = false := bne_eq_false_iff_eq.mpr c34
                      clear c34
                      replace H := Option.bind_eq_some_iff.mp H
                      obtain ⟨t313, A350, H⟩ := H
                      replace H : (some t313) = some r := H
                      have A35 := Aside0.mk A350
                      clear A350
                      obtain rfl := Option.some.inj H
                      have hnb36 := NB304_310.out
                      have hnc36 := NB310_304.out
                      have hcz37_0 : wc.cell? ⟨gb304, 0, none⟩ = some (.slice Ao18 t299.length co18) := (blk_cell BK304.out 0).trans rfl
                      have hcz37_1 : wc.cell? ⟨gb304, 1, none⟩ = some (.int .i64 t302) := (blk_cell BK304.out 1).trans rfl
                      have hfz37_0 := blk_frozen BK304.out 0
                      have hfz37_1 := blk_frozen BK304.out 1
                      have hcz38_0 : wc.cell? ⟨gb310, 0, none⟩ = some (.slice Ao22 t305.length co22) := (blk_cell BK310.out 0).trans rfl
                      have hcz38_1 : wc.cell? ⟨gb310, 1, none⟩ = some (.int .i64 t308) := (blk_cell BK310.out 1).trans rfl
                      have hfz38_0 := blk_frozen BK310.out 0
                      have hfz38_1 := blk_frozen BK310.out 1
                      go_wp2_with (first | (go_at_call 19; (with_reducible refine (order_Compare.calls kj14 _ _ t299 t302 _ _ t305 t308 t311 _ ?side1 ?side2 ?side3 ?side4 A31.out).mono ?_); (case side1 => repeat (first | exact (Kd.R_reads' HO_305000.out).2.2 | (with_reducible refine Kd.C_alloc ?_ _) | (with_reducible refine Kd.C_drewN ?_ _) | (with_reducible refine Kd.C_drew ?_))); (case side2 => exact (Kd.R_reads' HO_305000.out).2.1); (case side3 => repeat (first | exact (Kd.R_reads' HO_311000.out).2.2 | (with_reducible refine Kd.C_alloc ?_ _) | (with_reducible refine Kd.C_drewN ?_ _) | (with_reducible refine Kd.C_drew ?_))); (case side4 => exact (Kd.R_reads' HO_311000.out).2.1); rintro e w39 ⟨rfl, hb⟩; have n0_ := Aside0.mk (Kd.R_below (by (with_reducible repeat (first | apply Kd.R_alloc | apply Kd.R_drewN | apply Kd.R_drew)); exact HO_305000.out) hb); have n1_ := Aside0.mk (Kd.R_below (by (with_reducible repeat (first | apply Kd.R_alloc | apply Kd.R_drewN | apply Kd.R_drew)); exact HO_311000.out) hb); have n2_ := Aside0.mk (blk_below (g := gb304) (o := .cells #[.slice Ao18 t299.length co18, .int .i64 t302] 27 (0, 0)) (by (with_reducible repeat (first | refine blk_drewN ?_ _ | refine blk_drew ?_ | refine blk_alloc ?_ _)); exact BK304.out) hb); have n3_ := Aside0.mk (blk_below (g := gb310) (o := .cells #[.slice Ao22 t305.length co22, .int .i64 t308] 27 (0, 0)) (by (with_reducible repeat (first | refine blk_drewN ?_ _ | refine blk_drew ?_ | refine blk_alloc ?_ _)); exact BK310.out) hb); have n4_ := Aside0.mk (below_step (by repeat (first | (with_reducible first | exact HB.out | apply below_alloc | apply pw_below_drewN | apply below_drew1 | refine below_set ?_ GE304.out | refine below_set ?_ GE310.out) | exact HB.out)) hb); clear HO_305000; clear HO_311000; clear BK304; clear BK310; clear HB; have HO_305000 := n0_; have HO_311000 := n1_; have BK304 := n2_; have BK310 := n3_; have HB := n4_; clear n0_ n1_ n2_ n3_ n4_; (try clear hb); (try clear hb2); (try clear hk); (try clear hi); have hcz40_0 : w39.cell? ⟨gb304, 0, none⟩ = some (.slice Ao18 t299.length co18) := (blk_cell BK304.out 0).trans rfl; have hcz40_1 : w39.cell? ⟨gb304, 1, none⟩ = some (.int .i64 t302) := (blk_cell BK304.out 1).trans rfl; have hfz40_0 := blk_frozen BK304.out 0; have hfz40_1 := blk_frozen BK304.out 1; have hcz41_0 : w39.cell? ⟨gb310, 0, none⟩ = some (.slice Ao22 t305.length co22) := (blk_cell BK310.out 0).trans rfl; have hcz41_1 : w39.cell? ⟨gb310, 1, none⟩ = some (.int .i64 t308) := (blk_cell BK310.out 1).trans rfl; have hfz41_0 := blk_frozen BK310.out 0; have hfz41_1 := blk_frozen BK310.out 1) | (go_at_call 19; (with_reducible refine (order_Compare.calls kj14 _ _ t299 t302 _ _ t305 t308 t311 _ ?side1 ?side2 ?side3 ?side4 A33.out).mono ?_); (case side1 => repeat (first | exact (Kd.R_reads' HO_305000.out).2.2 | (with_reducible refine Kd.C_alloc ?_ _) | (with_reducible refine Kd.C_drewN ?_ _) | (with_reducible refine Kd.C_drew ?_))); (case side2 => exact (Kd.R_reads' HO_305000.out).2.1); (case side3 => repeat (first | exact (Kd.R_reads' HO_311000.out).2.2 | (with_reducible refine Kd.C_alloc ?_ _) | (with_reducible refine Kd.C_drewN ?_ _) | (with_reducible refine Kd.C_drew ?_))); (case side4 => exact (Kd.R_reads' HO_311000.out).2.1); rintro e w42 ⟨rfl, hb⟩; have n0_ := Aside0.mk (Kd.R_below (by (with_reducible repeat (first | apply Kd.R_alloc | apply Kd.R_drewN | apply Kd.R_drew)); exact HO_305000.out) hb); have n1_ := Aside0.mk (Kd.R_below (by (with_reducible repeat (first | apply Kd.R_alloc | apply Kd.R_drewN | apply Kd.R_drew)); exact HO_311000.out) hb); have n2_ := Aside0.mk (blk_below (g := gb304) (o := .cells #[.slice Ao18 t299.length co18, .int .i64 t302] 27 (0, 0)) (by (with_reducible repeat (first | refine blk_drewN ?_ _ | refine blk_drew ?_ | refine blk_alloc ?_ _)); exact BK304.out) hb); have n3_ := Aside0.mk (blk_below (g := gb310) (o := .cells #[.slice Ao22 t305.length co22, .int .i64 t308] 27 (0, 0)) (by (with_reducible repeat (first | refine blk_drewN ?_ _ | refine blk_drew ?_ | refine blk_alloc ?_ _)); exact BK310.out) hb); have n4_ := Aside0.mk (below_step (by repeat (first | (with_reducible first | exact HB.out | apply below_alloc | apply pw_below_drewN | apply below_drew1 | refine below_set ?_ GE304.out | refine below_set ?_ GE310.out) | exact HB.out)) hb); clear HO_305000; clear HO_311000; clear BK304; clear BK310; clear HB; have HO_305000 := n0_; have HO_311000 := n1_; have BK304 := n2_; have BK310 := n3_; have HB := n4_; clear n0_ n1_ n2_ n3_ n4_; (try clear hb); (try clear hb2); (try clear hk); (try clear hi); have hcz43_0 : w42.cell? ⟨gb304, 0, none⟩ = some (.slice Ao18 t299.length co18) := (blk_cell BK304.out 0).trans rfl; have hcz43_1 : w42.cell? ⟨gb304, 1, none⟩ = some (.int .i64 t302) := (blk_cell BK304.out 1).trans rfl; have hfz43_0 := blk_frozen BK304.out 0; have hfz43_1 := blk_frozen BK304.out 1; have hcz44_0 : w42.cell? ⟨gb310, 0, none⟩ = some (.slice Ao22 t305.length co22) := (blk_cell BK310.out 0).trans rfl; have hcz44_1 : w42.cell? ⟨gb310, 1, none⟩ = some (.int .i64 t308) := (blk_cell BK310.out 1).trans rfl; have hfz44_0 := blk_frozen BK310.out 0; have hfz44_1 := blk_frozen BK310.out 1) | (go_at_call 18; (with_reducible refine (path_Same.calls kj14 _ _ t299 t302 _ _ t305 t308 t313 _ ?side1 ?side2 ?side3 ?side4 A35.out).mono ?_); (case side1 => repeat (first | exact (Kd.R_reads' HO_305000.out).2.2 | (with_reducible refine Kd.C_alloc ?_ _) | (with_reducible refine Kd.C_drewN ?_ _) | (with_reducible refine Kd.C_drew ?_))); (case side2 => exact (Kd.R_reads' HO_305000.out).2.1); (case side3 => repeat (first | exact (Kd.R_reads' HO_311000.out).2.2 | (with_reducible refine Kd.C_alloc ?_ _) | (with_reducible refine Kd.C_drewN ?_ _) | (with_reducible refine Kd.C_drew ?_))); (case side4 => exact (Kd.R_reads' HO_311000.out).2.1); rintro e w45 ⟨rfl, hb⟩; have n0_ := Aside0.mk (Kd.R_below (by (with_reducible repeat (first | apply Kd.R_alloc | apply Kd.R_drewN | apply Kd.R_drew)); exact HO_305000.out) hb); have n1_ := Aside0.mk (Kd.R_below (by (with_reducible repeat (first | apply Kd.R_alloc | apply Kd.R_drewN | apply Kd.R_drew)); exact HO_311000.out) hb); have n2_ := Aside0.mk (blk_below (g := gb304) (o := .cells #[.slice Ao18 t299.length co18, .int .i64 t302] 27 (0, 0)) (by (with_reducible repeat (first | refine blk_drewN ?_ _ | refine blk_drew ?_ | refine blk_alloc ?_ _)); exact BK304.out) hb); have n3_ := Aside0.mk (blk_below (g := gb310) (o := .cells #[.slice Ao22 t305.length co22, .int .i64 t308] 27 (0, 0)) (by (with_reducible repeat (first | refine blk_drewN ?_ _ | refine blk_drew ?_ | refine blk_alloc ?_ _)); exact BK310.out) hb); have n4_ := Aside0.mk (below_step (by repeat (first | (with_reducible first | exact HB.out | apply below_alloc | apply pw_below_drewN | apply below_drew1 | refine below_set ?_ GE304.out | refine below_set ?_ GE310.out) | exact HB.out)) hb); clear HO_305000; clear HO_311000; clear BK304; clear BK310; clear HB; have HO_305000 := n0_; have HO_311000 := n1_; have BK304 := n2_; have BK310 := n3_; have HB := n4_; clear n0_ n1_ n2_ n3_ n4_; (try clear hb); (try clear hb2); (try clear hk); (try clear hi)))
                      go_ret
                      exact ⟨by first | rfl | (simp [errW_none, errW_some] <;> rfl) | (simp [*, errW_none, errW_some] <;> rfl), by repeat (first | (with_reducible first | exact HB.out | apply below_alloc | apply pw_below_drewN | apply below_drew1 | refine below_set ?_ GE304.out | refine below_set ?_ GE310.out) | exact HB.out)⟩
                    · rw [if_neg c34] at H
                      have c34b0 : (t311 == 0) = false := beq_eq_false_iff_ne.mpr c34
                      have c34b1 : (t311 != 0) = true := bne_iff_ne.mpr c34
                      obtain rfl := Option.some.inj H
                      have hnb46 := NB304_310.out
                      have hnc46 := NB310_304.out
                      have hcz47_0 : wc.cell? ⟨gb304, 0, none⟩ = some (.slice Ao18 t299.length co18) := (blk_cell BK304.out 0).trans rfl
                      have hcz47_1 : wc.cell? ⟨gb304, 1, none⟩ = some (.int .i64 t302) := (blk_cell BK304.out 1).trans rfl
                      have hfz47_0 := blk_frozen BK304.out 0
                      have hfz47_1 := blk_frozen BK304.out 1
                      have hcz48_0 : wc.cell? ⟨gb310, 0, none⟩ = some (.slice Ao22 t305.length co22) := (blk_cell BK310.out 0).trans rfl
                      have hcz48_1 : wc.cell? ⟨gb310, 1, none⟩ = some (.int .i64 t308) := (blk_cell BK310.out 1).trans rfl
                      have hfz48_0 := blk_frozen BK310.out 0
                      have hfz48_1 := blk_frozen BK310.out 1
                      go_wp2_with (first | (go_at_call 19; (with_reducible refine (order_Compare.calls kj14 _ _ t299 t302 _ _ t305 t308 t311 _ ?side1 ?side2 ?side3 ?side4 A31.out).mono ?_); (case side1 => repeat (first | exact (Kd.R_reads' HO_305000.out).2.2 | (with_reducible refine Kd.C_alloc ?_ _) | (with_reducible refine Kd.C_drewN ?_ _) | (with_reducible refine Kd.C_drew ?_))); (case side2 => exact (Kd.R_reads' HO_305000.out).2.1); (case side3 => repeat (first | exact (Kd.R_reads' HO_311000.out).2.2 | (with_reducible refine Kd.C_alloc ?_ _) | (with_reducible refine Kd.C_drewN ?_ _) | (with_reducible refine Kd.C_drew ?_))); (case side4 => exact (Kd.R_reads' HO_311000.out).2.1); rintro e w49 ⟨rfl, hb⟩; have n0_ := Aside0.mk (Kd.R_below (by (with_reducible repeat (first | apply Kd.R_alloc | apply Kd.R_drewN | apply Kd.R_drew)); exact HO_305000.out) hb); have n1_ := Aside0.mk (Kd.R_below (by (with_reducible repeat (first | apply Kd.R_alloc | apply Kd.R_drewN | apply Kd.R_drew)); exact HO_311000.out) hb); have n2_ := Aside0.mk (blk_below (g := gb304) (o := .cells #[.slice Ao18 t299.length co18, .int .i64 t302] 27 (0, 0)) (by (with_reducible repeat (first | refine blk_drewN ?_ _ | refine blk_drew ?_ | refine blk_alloc ?_ _)); exact BK304.out) hb); have n3_ := Aside0.mk (blk_below (g := gb310) (o := .cells #[.slice Ao22 t305.length co22, .int .i64 t308] 27 (0, 0)) (by (with_reducible repeat (first | refine blk_drewN ?_ _ | refine blk_drew ?_ | refine blk_alloc ?_ _)); exact BK310.out) hb); have n4_ := Aside0.mk (below_step (by repeat (first | (with_reducible first | exact HB.out | apply below_alloc | apply pw_below_drewN | apply below_drew1 | refine below_set ?_ GE304.out | refine below_set ?_ GE310.out) | exact HB.out)) hb); clear HO_305000; clear HO_311000; clear BK304; clear BK310; clear HB; have HO_305000 := n0_; have HO_311000 := n1_; have BK304 := n2_; have BK310 := n3_; have HB := n4_; clear n0_ n1_ n2_ n3_ n4_; (try clear hb); (try clear hb2); (try clear hk); (try clear hi); have hcz50_0 : w49.cell? ⟨gb304, 0, none⟩ = some (.slice Ao18 t299.length co18) := (blk_cell BK304.out 0).trans rfl; have hcz50_1 : w49.cell? ⟨gb304, 1, none⟩ = some (.int .i64 t302) := (blk_cell BK304.out 1).trans rfl; have hfz50_0 := blk_frozen BK304.out 0; have hfz50_1 := blk_frozen BK304.out 1; have hcz51_0 : w49.cell? ⟨gb310, 0, none⟩ = some (.slice Ao22 t305.length co22) := (blk_cell BK310.out 0).trans rfl; have hcz51_1 : w49.cell? ⟨gb310, 1, none⟩ = some (.int .i64 t308) := (blk_cell BK310.out 1).trans rfl; have hfz51_0 := blk_frozen BK310.out 0; have hfz51_1 := blk_frozen BK310.out 1) | (go_at_call 19; (with_reducible refine (order_Compare.calls kj14 _ _ t299 t302 _ _ t305 t308 t311 _ ?side1 ?side2 ?side3 ?side4 A33.out).mono ?_); (case side1 => repeat (first | exact (Kd.R_reads' HO_305000.out).2.2 | (with_reducible refine Kd.C_alloc ?_ _) | (with_reducible refine Kd.C_drewN ?_ _) | (with_reducible refine Kd.C_drew ?_))); (case side2 => exact (Kd.R_reads' HO_305000.out).2.1); (case side3 => repeat (first | exact (Kd.R_reads' HO_311000.out).2.2 | (with_reducible refine Kd.C_alloc ?_ _) | (with_reducible refine Kd.C_drewN ?_ _) | (with_reducible refine Kd.C_drew ?_))); (case side4 => exact (Kd.R_reads' HO_311000.out).2.1); rintro e w52 ⟨rfl, hb⟩; have n0_ := Aside0.mk (Kd.R_below (by (with_reducible repeat (first | apply Kd.R_alloc | apply Kd.R_drewN | apply Kd.R_drew)); exact HO_305000.out) hb); have n1_ := Aside0.mk (Kd.R_below (by (with_reducible repeat (first | apply Kd.R_alloc | apply Kd.R_drewN | apply Kd.R_drew)); exact HO_311000.out) hb); have n2_ := Aside0.mk (blk_below (g := gb304) (o := .cells #[.slice Ao18 t299.length co18, .int .i64 t302] 27 (0, 0)) (by (with_reducible repeat (first | refine blk_drewN ?_ _ | refine blk_drew ?_ | refine blk_alloc ?_ _)); exact BK304.out) hb); have n3_ := Aside0.mk (blk_below (g := gb310) (o := .cells #[.slice Ao22 t305.length co22, .int .i64 t308] 27 (0, 0)) (by (with_reducible repeat (first | refine blk_drewN ?_ _ | refine blk_drew ?_ | refine blk_alloc ?_ _)); exact BK310.out) hb); have n4_ := Aside0.mk (below_step (by repeat (first | (with_reducible first | exact HB.out | apply below_alloc | apply pw_below_drewN | apply below_drew1 | refine below_set ?_ GE304.out | refine below_set ?_ GE310.out) | exact HB.out)) hb); clear HO_305000; clear HO_311000; clear BK304; clear BK310; clear HB; have HO_305000 := n0_; have HO_311000 := n1_; have BK304 := n2_; have BK310 := n3_; have HB := n4_; clear n0_ n1_ n2_ n3_ n4_; (try clear hb); (try clear hb2); (try clear hk); (try clear hi)))
                      go_ret
                      exact ⟨by first | rfl | (simp [errW_none, errW_some] <;> rfl) | (simp [*, errW_none, errW_some] <;> rfl), by repeat (first | (with_reducible first | exact HB.out | apply below_alloc | apply pw_below_drewN | apply below_drew1 | refine below_set ?_ GE304.out | refine below_set ?_ GE310.out) | exact HB.out)⟩
                  · rw [if_neg c32] at H
                    have c32b0 : decide (t311 ≤ 0) = false := decide_eq_false c32
                    clear c32
                    obtain rfl := Option.some.inj H
                    have hnb53 := NB304_310.out
                    have hnc53 := NB310_304.out
                    have hcz54_0 : wc.cell? ⟨gb304, 0, none⟩ = some (.slice Ao18 t299.length co18) := (blk_cell BK304.out 0).trans rfl
                    have hcz54_1 : wc.cell? ⟨gb304, 1, none⟩ = some (.int .i64 t302) := (blk_cell BK304.out 1).trans rfl
                    have hfz54_0 := blk_frozen BK304.out 0
                    have hfz54_1 := blk_frozen BK304.out 1
                    have hcz55_0 : wc.cell? ⟨gb310, 0, none⟩ = some (.slice Ao22 t305.length co22) := (blk_cell BK310.out 0).trans rfl
                    have hcz55_1 : wc.cell? ⟨gb310, 1, none⟩ = some (.int .i64 t308) := (blk_cell BK310.out 1).trans rfl
                    have hfz55_0 := blk_frozen BK310.out 0
                    have hfz55_1 := blk_frozen BK310.out 1
                    go_wp2_with (first | (go_at_call 19; (with_reducible refine (order_Compare.calls kj14 _ _ t299 t302 _ _ t305 t308 t311 _ ?side1 ?side2 ?side3 ?side4 A31.out).mono ?_); (case side1 => repeat (first | exact (Kd.R_reads' HO_305000.out).2.2 | (with_reducible refine Kd.C_alloc ?_ _) | (with_reducible refine Kd.C_drewN ?_ _) | (with_reducible refine Kd.C_drew ?_))); (case side2 => exact (Kd.R_reads' HO_305000.out).2.1); (case side3 => repeat (first | exact (Kd.R_reads' HO_311000.out).2.2 | (with_reducible refine Kd.C_alloc ?_ _) | (with_reducible refine Kd.C_drewN ?_ _) | (with_reducible refine Kd.C_drew ?_))); (case side4 => exact (Kd.R_reads' HO_311000.out).2.1); rintro e w56 ⟨rfl, hb⟩; have n0_ := Aside0.mk (Kd.R_below (by (with_reducible repeat (first | apply Kd.R_alloc | apply Kd.R_drewN | apply Kd.R_drew)); exact HO_305000.out) hb); have n1_ := Aside0.mk (Kd.R_below (by (with_reducible repeat (first | apply Kd.R_alloc | apply Kd.R_drewN | apply Kd.R_drew)); exact HO_311000.out) hb); have n2_ := Aside0.mk (blk_below (g := gb304) (o := .cells #[.slice Ao18 t299.length co18, .int .i64 t302] 27 (0, 0)) (by (with_reducible repeat (first | refine blk_drewN ?_ _ | refine blk_drew ?_ | refine blk_alloc ?_ _)); exact BK304.out) hb); have n3_ := Aside0.mk (blk_below (g := gb310) (o := .cells #[.slice Ao22 t305.length co22, .int .i64 t308] 27 (0, 0)) (by (with_reducible repeat (first | refine blk_drewN ?_ _ | refine blk_drew ?_ | refine blk_alloc ?_ _)); exact BK310.out) hb); have n4_ := Aside0.mk (below_step (by repeat (first | (with_reducible first | exact HB.out | apply below_alloc | apply pw_below_drewN | apply below_drew1 | refine below_set ?_ GE304.out | refine below_set ?_ GE310.out) | exact HB.out)) hb); clear HO_305000; clear HO_311000; clear BK304; clear BK310; clear HB; have HO_305000 := n0_; have HO_311000 := n1_; have BK304 := n2_; have BK310 := n3_; have HB := n4_; clear n0_ n1_ n2_ n3_ n4_; (try clear hb); (try clear hb2); (try clear hk); (try clear hi)))
                    go_ret
                    exact ⟨by first | rfl | (simp [errW_none, errW_some] <;> rfl) | (simp [*, errW_none, errW_some] <;> rfl), by repeat (first | (with_reducible first | exact HB.out | apply below_alloc | apply pw_below_drewN | apply below_drew1 | refine below_set ?_ GE304.out | refine below_set ?_ GE310.out) | exact HB.out)⟩
                · replace c30 := Bool.eq_false_iff.mpr c30
                  subst c30
                  have H1 : (some false) = some r := by rw [if_neg (show ¬ (false = true) by decide)] at H; exact H
                  clear H
                  have H := H1
                  clear H1
                  obtain rfl := Option.some.inj H
                  go_wp2
                  go_ret
                  exact ⟨by first | rfl | (simp [errW_none, errW_some] <;> rfl) | (simp [*, errW_none, errW_some] <;> rfl), by repeat (first | (with_reducible first | exact HB.out | apply below_alloc | apply pw_below_drewN | apply below_drew1 | refine below_set ?_ GE304.out | refine below_set ?_ GE310.out) | exact HB.out)⟩
              · replace c29 := Bool.eq_false_iff.mpr c29
                subst c29
                have H1 : (some false) = some r := by rw [if_neg (show ¬ (false = true) by decide)] at H; exact H
                clear H
                have H := H1
                clear H1
                obtain rfl := Option.some.inj H
                go_wp2
                go_ret
                exact ⟨by first | rfl | (simp [errW_none, errW_some] <;> rfl) | (simp [*, errW_none, errW_some] <;> rfl), by repeat (first | (with_reducible first | exact HB.out | apply below_alloc | apply pw_below_drewN | apply below_drew1 | refine below_set ?_ GE304.out | refine below_set ?_ GE310.out) | exact HB.out)⟩
end Go.Proofs.Ytijflnpgiegajaa.Q
end
section
namespace Go.Proofs.Ytijflnpgiegajaa.Q
open Go.RowKit Go.Proofs.YtijflnpgiegajaaW.PrintWords Go.Proofs.YtijflnpgiegajaaW.PrintLast Go.Proofs.YtijflnpgiegajaaW.PrintMore Go.Proofs.Ytijflnpgiegajaa.IM
set_option linter.unusedVariables false
set_option linter.unusedSimpArgs false
theorem route_len {l : List S65} {frm dst now size by_ : Int} {sh : List Int} {es : List S65} (h : RouteE l size sh frm now dst by_ es) : es.length ≤ l.length := way_short h.way h.nodup
theorem LeastBeats_true (l : List S65) (ids : List Int) (frm dst now size by_ : Int) : feluccalaw17_LeastBeats.f 200 l ids frm dst now size by_ = some true := by
  unfold feluccalaw17_LeastBeats.f
  have hsm : feluccalaw17_small.f = some true := rfl
  rw [hsm]
  simp only [Option.bind_some]
  have hj : ∀ b : Bool, (b = false → ¬ (l.length : Int) > 30 ∧ ¬ (ids.length : Int) > 20) → feluccalaw17_LeastBeats.j0 200 l ids frm dst now size by_ true b = some true := fun b hb => by
    rw [feluccalaw17_LeastBeats.j0]
    cases b with
    | true => simp
    | false =>
      obtain ⟨hl, hi⟩ := hb rfl
      simp only [Bool.false_eq_true, if_false]
      have hj1 : ∀ (b : Bool) (h1 : List S56) (t1 : Int) (h2 : List S56) (t2 : Int), feluccalaw17_LeastBeats.j1 199 true b true h1 t1 h2 t2 = some true := fun b h1 t1 h2 t2 => by
        rw [feluccalaw17_LeastBeats.j1]
        simp
      have hR : path_Route.f l ids frm dst now size = some (resR (routeP l ids frm dst now size)) := by
        unfold path_Route.f
        rw [if_pos ⟨by omega, by omega⟩]
      cases hq : routeP l ids frm dst now size with
      | none =>
        rw [hR, hq]
        rcases least_spec (l := l) (frm := frm) (dst := dst) (now := now) (size := size) (by_ := by_) (sh := []) (by omega) (by simp) with ⟨hle, hnr⟩ | ⟨es, hr, hle, hmin⟩
        · rw [hle]
          simp [resR, hj1]
        · rw [hle]
          simp [resR, hj1]
      | some ht =>
        obtain ⟨h, t⟩ := ht
        obtain ⟨es', hids, hr', rfl, rfl⟩ := routeP_some hq
        rw [hR, hq]
        by_cases ht : endT size es' now > by_
        · rcases least_spec (l := l) (frm := frm) (dst := dst) (now := now) (size := size) (by_ := by_) (sh := []) (by omega) (by simp) with ⟨hle, hnr⟩ | ⟨es, hr, hle, hmin⟩
          · rw [hle]
            simp [resR, ht, hj1]
          · rw [hle]
            simp [resR, ht, hj1]
        · have hr2 : RouteE l size [] frm now dst by_ es' := ⟨hr'.asked, hr'.node, hr'.way, hr'.nodup, by omega⟩
          rcases least_spec (l := l) (frm := frm) (dst := dst) (now := now) (size := size) (by_ := by_) (sh := []) (by omega) (by simp) with ⟨hle, hnr⟩ | ⟨es, hr, hle, hmin⟩
          · exact absurd hr2 (hnr es')
          · rw [hle]
            have hk := cmpR_le (hmin es' hr2)
            have hlen := route_len hr
            have hlen' := route_len hr2
            have hh : (hopsT size es now).length ≤ 30 := by rw [hopsT_len]; omega
            have hh' : (hopsT size es' now).length ≤ 30 := by rw [hopsT_len]; omega
            have hc := order_Compare_eq (hopsT size es now) (hopsT size es' now) (endT size es now) (endT size es' now) (by omega) (by omega) 198 (by omega)
            simp only [resR, Option.bind_some, if_true, decide_eq_false ht]
            rw [feluccalaw17_LeastBeats.j1, hc]
            simp only [Bool.false_eq_true, if_false, if_true, Option.bind_some]
            rw [if_pos hk.1]
            by_cases hz : cmpR (hopsT size es now) (endT size es now) (hopsT size es' now) (endT size es' now) = 0
            · rw [if_pos hz, path_Same_eq _ _ _ _ (by omega) 198 (by omega)]
              have he := ids_one (rightL_pair hr.asked.2.2.2) es es' (fun e he => (way_all es _ _ _ hr.way e he).1) (fun e he => (way_all es' _ _ _ hr2.way e he).1) (hk.2 hz)
              subst he
              simp
            · rw [if_neg hz]
  by_cases hl : (l.length : Int) > 30
  · rw [if_pos hl]
    exact hj true (fun h => by simp at h)
  · rw [if_neg hl]
    refine hj _ (fun h => ⟨hl, by simpa using h⟩)
end Go.Proofs.Ytijflnpgiegajaa.Q
end
