/- What the reference's Split, Unword, Num compute: plain laws. -/
import Derived.Test.YtodiohoiekkodaaDoorMa9
import Derived.Test.YtodiohoiekkodaaDoorMa11
section
-- PRINTED by print.py (a twelfth state) out of the translation. Not trusted: Lean checks it.
namespace Go.Proofs.YtodiohoiekkodaaDoor.Rf
open Go.RowKit Go.Proofs.YtodiohoiekkodaaDoorW.PrintWords Go.Proofs.YtodiohoiekkodaaDoorW.PrintLast Go.Proofs.YtodiohoiekkodaaDoorW.PrintMore
attribute [local go_sem] max2_int min2_int max_two min_two max_three min_three max_four min_four   -- for this text's walks alone
set_option linter.unusedVariables false
set_option linter.unusedSimpArgs false

/-! ### bellmanref19_Unword: function 41 -/
mutual
def bellmanref19_Unword.l0 : Nat → ByteArray → List Int → Int → Option (ByteArray × Bool)
  | 0, _, _, _ => none
  | k + 1, x0, x4, x5 => if x5 < (x0.size : Int) then (if 0 ≤ x5 then (if (bt x0 x5) < 33 then (bellmanref19_Unword.j1 k x0 x4 x5 true) else (bellmanref19_Unword.j1 k x0 x4 x5 (decide ((bt x0 x5) > 126)))) else (none)) else (some (strOfNums x4, true))
def bellmanref19_Unword.j1 : Nat → ByteArray → List Int → Int → Bool → Option (ByteArray × Bool)
  | 0, _, _, _, _ => none
  | k + 1, x0, x4, x5, x26 => if x26 = true then (some ((⟨#[]⟩ : ByteArray), false)) else (if 0 ≤ x5 then (if x5 < (x0.size : Int) then (if (bt x0 x5) = 37 then (if (wrap64 (x5 + 2)) ≥ (x0.size : Int) then (bellmanref19_Unword.j2 k x0 x4 x5 true) else (if 0 ≤ (wrap64 (x5 + 1)) then (if (wrap64 (x5 + 1)) < (x0.size : Int) then ((bellmanref19_digit.f k (bt x0 (wrap64 (x5 + 1)))).bind fun t128 => (if t128 = 16 then (bellmanref19_Unword.j2 k x0 x4 x5 true) else (if 0 ≤ (wrap64 (x5 + 2)) then (if (wrap64 (x5 + 2)) < (x0.size : Int) then ((bellmanref19_digit.f k (bt x0 (wrap64 (x5 + 2)))).bind fun t129 => (bellmanref19_Unword.j2 k x0 x4 x5 (t129 == 16))) else (none)) else (none)))) else (none)) else (none))) else (if x4.length < 140737488355328 then (bellmanref19_Unword.l0 k x0 (x4 ++ [bt x0 x5]) (wrap64 (x5 + 1))) else (none))) else (none)) else (none))
def bellmanref19_Unword.j2 : Nat → ByteArray → List Int → Int → Bool → Option (ByteArray × Bool)
  | 0, _, _, _, _ => none
  | k + 1, x0, x4, x5, x57 => if x57 = true then (some ((⟨#[]⟩ : ByteArray), false)) else (if 0 ≤ (wrap64 (x5 + 1)) then (if (wrap64 (x5 + 1)) < (x0.size : Int) then ((bellmanref19_digit.f k (bt x0 (wrap64 (x5 + 1)))).bind fun t130 => (if 0 ≤ (wrap64 (x5 + 2)) then (if (wrap64 (x5 + 2)) < (x0.size : Int) then ((bellmanref19_digit.f k (bt x0 (wrap64 (x5 + 2)))).bind fun t131 => (if ((wrap64 ((wrap64 (t130 * 16)) + t131)) % 256) ≥ 33 then (if ((wrap64 ((wrap64 (t130 * 16)) + t131)) % 256) ≤ 126 then (if ((wrap64 ((wrap64 (t130 * 16)) + t131)) % 256) = 37 then (if x4.length < 140737488355328 then (bellmanref19_Unword.l0 k x0 (x4 ++ [(wrap64 ((wrap64 (t130 * 16)) + t131)) % 256]) (wrap64 ((wrap64 (x5 + 2)) + 1))) else (none)) else (some ((⟨#[]⟩ : ByteArray), false))) else (if x4.length < 140737488355328 then (bellmanref19_Unword.l0 k x0 (x4 ++ [(wrap64 ((wrap64 (t130 * 16)) + t131)) % 256]) (wrap64 ((wrap64 (x5 + 2)) + 1))) else (none))) else (if x4.length < 140737488355328 then (bellmanref19_Unword.l0 k x0 (x4 ++ [(wrap64 ((wrap64 (t130 * 16)) + t131)) % 256]) (wrap64 ((wrap64 (x5 + 2)) + 1))) else (none)))) else (none)) else (none))) else (none)) else (none))
end
def bellmanref19_Unword.f (k : Nat) (a0 : ByteArray) : Option (ByteArray × Bool) := if a0.toList = ([37] : List UInt8) then (some ((⟨#[]⟩ : ByteArray), true)) else (if a0.toList = ([] : List UInt8) then (some ((⟨#[]⟩ : ByteArray), false)) else (bellmanref19_Unword.l0 k a0 ([] : List Int) 0))
theorem bellmanref19_Unword.mono_l : ∀ k, (∀ y0 y1 y2, LeO (bellmanref19_Unword.l0 k y0 y1 y2) (bellmanref19_Unword.l0 (k + 1) y0 y1 y2)) ∧ (∀ y0 y1 y2 y3, LeO (bellmanref19_Unword.j1 k y0 y1 y2 y3) (bellmanref19_Unword.j1 (k + 1) y0 y1 y2 y3)) ∧ (∀ y0 y1 y2 y3, LeO (bellmanref19_Unword.j2 k y0 y1 y2 y3) (bellmanref19_Unword.j2 (k + 1) y0 y1 y2 y3))
  | 0 => ⟨fun _ _ _ r h => by simp [bellmanref19_Unword.l0] at h, fun _ _ _ _ r h => by simp [bellmanref19_Unword.j1] at h, fun _ _ _ _ r h => by simp [bellmanref19_Unword.j2] at h⟩
  | k + 1 => by
    obtain ⟨ih0, ih1, ih2⟩ := bellmanref19_Unword.mono_l k
    refine ⟨?_, ?_, ?_⟩
    · intro y0 y1 y2
      unfold bellmanref19_Unword.l0
      repeat' first
      | (with_reducible exact ih0 _ _ _)
      | (with_reducible exact ih1 _ _ _ _)
      | (with_reducible exact ih2 _ _ _ _)
      | (with_reducible exact bellmanref19_digit.mono _ _)
      | (with_reducible exact LeO.refl _)
      | (with_reducible exact LeO.none _)
      | (with_reducible refine LeO.ite ?_ ?_)
      | (with_reducible refine LeO.bind ?_ (fun _ => ?_))
      | exact ih0 _ _ _
      | exact ih1 _ _ _ _
      | exact ih2 _ _ _ _
      | exact bellmanref19_digit.mono _ _
      | exact LeO.none _
      | refine LeO.ite ?_ ?_
      | refine LeO.bind ?_ (fun _ => ?_)
    · intro y0 y1 y2 y3
      unfold bellmanref19_Unword.j1
      repeat' first
      | (with_reducible exact ih0 _ _ _)
      | (with_reducible exact ih1 _ _ _ _)
      | (with_reducible exact ih2 _ _ _ _)
      | (with_reducible exact bellmanref19_digit.mono _ _)
      | (with_reducible exact LeO.refl _)
      | (with_reducible exact LeO.none _)
      | (with_reducible refine LeO.ite ?_ ?_)
      | (with_reducible refine LeO.bind ?_ (fun _ => ?_))
      | exact ih0 _ _ _
      | exact ih1 _ _ _ _
      | exact ih2 _ _ _ _
      | exact bellmanref19_digit.mono _ _
      | exact LeO.none _
      | refine LeO.ite ?_ ?_
      | refine LeO.bind ?_ (fun _ => ?_)
    · intro y0 y1 y2 y3
      unfold bellmanref19_Unword.j2
      repeat' first
      | (with_reducible exact ih0 _ _ _)
      | (with_reducible exact ih1 _ _ _ _)
      | (with_reducible exact ih2 _ _ _ _)
      | (with_reducible exact bellmanref19_digit.mono _ _)
      | (with_reducible exact LeO.refl _)
      | (with_reducible exact LeO.none _)
      | (with_reducible refine LeO.ite ?_ ?_)
      | (with_reducible refine LeO.bind ?_ (fun _ => ?_))
      | exact ih0 _ _ _
      | exact ih1 _ _ _ _
      | exact ih2 _ _ _ _
      | exact bellmanref19_digit.mono _ _
      | exact LeO.none _
      | refine LeO.ite ?_ ?_
      | refine LeO.bind ?_ (fun _ => ?_)
theorem bellmanref19_Unword.mono : ∀ a0 k, LeO (bellmanref19_Unword.f k a0) (bellmanref19_Unword.f (k + 1) a0) := by
  intro a0 k
  obtain ⟨ih0, ih1, ih2⟩ := bellmanref19_Unword.mono_l k
  unfold bellmanref19_Unword.f
  repeat' first
      | (with_reducible exact ih0 _ _ _)
      | (with_reducible exact ih1 _ _ _ _)
      | (with_reducible exact ih2 _ _ _ _)
      | (with_reducible exact bellmanref19_digit.mono _ _)
      | (with_reducible exact LeO.refl _)
      | (with_reducible exact LeO.none _)
      | (with_reducible refine LeO.ite ?_ ?_)
      | (with_reducible refine LeO.bind ?_ (fun _ => ?_))
      | exact ih0 _ _ _
      | exact ih1 _ _ _ _
      | exact ih2 _ _ _ _
      | exact bellmanref19_digit.mono _ _
      | exact LeO.none _
      | refine LeO.ite ?_ ?_
      | refine LeO.bind ?_ (fun _ => ?_)
set_option maxHeartbeats 8000000 in
set_option maxRecDepth 100000 in
theorem bellmanref19_Unword.calls (k : Nat) (a0 : ByteArray) (r1 : ByteArray) (r2 : Bool) (w : World) (h : bellmanref19_Unword.f k a0 = some (r1, r2)) :
    Calls Tryd.prog 41 #[.string a0] w fun e w' => e = .returned (.tuple #[.string r1, .bool r2]) ∧ Below w.heap.size w w' := by
  have HB := Aside0.mk (Below.refl w.heap.size w)
  have H : (if a0.toList = ([37] : List UInt8) then (some ((⟨#[]⟩ : ByteArray), true)) else (if a0.toList = ([] : List UInt8) then (some ((⟨#[]⟩ : ByteArray), false)) else (bellmanref19_Unword.l0 k a0 ([] : List Int) 0))) = some (r1, r2) := h
  clear h
  by_cases c2 : a0.toList = ([37] : List UInt8)
  · rw [if_pos c2] at H
    have c2b0 : (a0.toList == ([37] : List UInt8)) = true := beq_iff_eq.mpr c2
    have c2b1 : (a0.toList != ([37] : List UInt8)) = false := bne_eq_false_iff_eq.mpr c2
    clear c2
    simp only [Option.some.injEq, Prod.mk.injEq] at H
    obtain ⟨rfl, rfl⟩ := H
    go_enter Tryd.func41, Tryd.ntmps41
    go_wp2
    repeat (go_quiet (fail); try go_wp2)
    go_ret2
    exact ⟨by first | rfl | (simp [errW_none, errW_some] <;> rfl) | (simp [*, errW_none, errW_some] <;> rfl), by repeat (first | (with_reducible first | exact HB.out | apply below_alloc | apply pw_below_drewN | apply below_drew1) | exact HB.out)⟩
  · rw [if_neg c2] at H
    have c2b0 : (a0.toList == ([37] : List UInt8)) = false := beq_eq_false_iff_ne.mpr c2
    have c2b1 : (a0.toList != ([37] : List UInt8)) = true := bne_iff_ne.mpr c2
    by_cases c3 : a0.toList = ([] : List UInt8)
    · rw [if_pos c3] at H
      have c3b0 : (a0.toList == ([] : List UInt8)) = true := beq_iff_eq.mpr c3
      have c3b1 : (a0.toList != ([] : List UInt8)) = false := bne_eq_false_iff_eq.mpr c3
      clear c3
      simp only [Option.some.injEq, Prod.mk.injEq] at H
      obtain ⟨rfl, rfl⟩ := H
      go_enter Tryd.func41, Tryd.ntmps41
      go_wp2
      repeat (go_quiet (fail); try go_wp2)
      go_ret2
      exact ⟨by first | rfl | (simp [errW_none, errW_some] <;> rfl) | (simp [*, errW_none, errW_some] <;> rfl), by repeat (first | (with_reducible first | exact HB.out | apply below_alloc | apply pw_below_drewN | apply below_drew1) | exact HB.out)⟩
    · rw [if_neg c3] at H
      have c3b0 : (a0.toList == ([] : List UInt8)) = false := beq_eq_false_iff_ne.mpr c3
      have c3b1 : (a0.toList != ([] : List UInt8)) = true := bne_iff_ne.mpr c3
      have H' := Aside0.mk H
      clear H
      go_enter Tryd.func41, Tryd.ntmps41
      go_wp2
      repeat (go_quiet (fail); try go_wp2)
      go_loopg [4, 5] k (fun kq v4 v5 w' => ∃ (x4_1 : List Int) (x5_1 : Int), v5 = .int .i64 x5_1 ∧ Aside0 (bellmanref19_Unword.l0 kq a0 x4_1 x5_1 = some (r1, r2)) ∧ Aside0 (kq ≤ k) ∧ Aside0 (Kd.R (Kd.int .u8) 5 w' w.heap.size (fun _ => True) v4 x4_1) ∧ Aside0 (Below w.heap.size w w'))
      case atStart => exact ⟨(([] : List Int)), (0), (by first | rfl | (simp; done) | (simp [*]; done)), H', ⟨Nat.le_refl _⟩, ⟨by first | exact Kd.R_nil _ _ _ _ _ | exact Kd.N_nil _ _ _ _ _ | exact Kd.V_nil _ _ _ _ _ | exact Kd.Q_nil _ _ _ _ _ | exact Kd.S_nil _ _ _ _ _⟩, ⟨by repeat (first | (with_reducible first | exact HB.out | apply below_alloc | apply pw_below_drewN | apply below_drew1) | exact HB.out)⟩⟩
      case round =>
        clear H'
        try clear c2
        try clear c2b0
        try clear c2b1
        try clear p2
        try clear c3
        try clear c3b0
        try clear c3b1
        obtain ⟨x4_1, x5_1, rfl, HA, HK1, HO_4, HB⟩ := hrel
        cases gk with
        | zero => exact absurd HA.out (by simp [bellmanref19_Unword.l0])
        | succ k1 =>
          have H := HA.out
          clear HA
          simp only [bellmanref19_Unword.l0] at H
          by_cases c4 : x5_1 < (a0.size : Int)
          · rw [if_pos c4] at H
            have c4b0 : decide (x5_1 < (a0.size : Int)) = true := decide_eq_true c4
            clear c4
            have HC5 := Aside0.mk H
            clear H
            go_upto_region 9 with (fail)
            repeat (go_quiet (fail); go_upto_region 9 with (fail))
            go_cut [26] (fun v26 wc => ∃ (kq : Nat) (x26_4 : Bool), v26 = .bool x26_4 ∧ Aside0 (bellmanref19_Unword.j1 kq a0 x4_1 x5_1 x26_4 = some (r1, r2)) ∧ Aside0 (kq ≤ k1) ∧ Aside0 (Kd.R (Kd.int .u8) 5 wc w.heap.size (fun _ => True) u4 x4_1) ∧ Aside0 (Below w.heap.size w wc))
            case first =>
              have H := HC5.out
              clear HC5
              by_cases c6 : 0 ≤ x5_1
              · rw [if_pos c6] at H
                have c6b0 : decide (0 ≤ x5_1) = true := decide_eq_true c6
                clear c6
                (first | rw [c6b0] | (simp only [i64_w, i32_w]; rw [c6b0]) | skip)
                by_cases c8 : (bt a0 x5_1) < 33
                · rw [if_pos c8] at H
                  have c8b0 : decide ((bt a0 x5_1) < 33) = true := decide_eq_true c8
                  clear c8
                  have H' := Aside0.mk H
                  clear H
                  have p7 : 0 ≤ (x5_1 : Int) := of_decide_eq_true (by first | (with_reducible assumption) | assumption)
                  have q7 : x5_1 < (a0.size : Int) := of_decide_eq_true (by first | (with_reducible assumption) | assumption)
                  have hx7 := bt_at a0 x5_1
                  replace p7 := eq_true p7
                  replace q7 := eq_true q7
                  go_wp2
                  repeat (go_quiet (fail); try go_wp2)
                  go_meet
                  case rel => exact ⟨_, (true), (by first | rfl | (simp; done) | (simp [*]; done)), H', ⟨by have := HK1.out; first | omega | exact Nat.le_refl _⟩, ⟨by (with_reducible repeat (first | apply Kd.R_alloc | apply Kd.R_drewN | apply Kd.R_drew)); exact HO_4.out⟩, ⟨by repeat (first | (with_reducible first | exact HB.out | apply below_alloc | apply pw_below_drewN | apply below_drew1) | exact HB.out)⟩⟩
                · rw [if_neg c8] at H
                  have c8b0 : decide ((bt a0 x5_1) < 33) = false := decide_eq_false c8
                  clear c8
                  have H' := Aside0.mk H
                  clear H
                  have p7 : 0 ≤ (x5_1 : Int) := of_decide_eq_true (by first | (with_reducible assumption) | assumption)
                  have q7 : x5_1 < (a0.size : Int) := of_decide_eq_true (by first | (with_reducible assumption) | assumption)
                  have hx7 := bt_at a0 x5_1
                  replace p7 := eq_true p7
                  replace q7 := eq_true q7
                  have p9 : 0 ≤ (x5_1 : Int) := of_decide_eq_true (by first | (with_reducible assumption) | assumption)
                  have q9 : x5_1 < (a0.size : Int) := of_decide_eq_true (by first | (with_reducible assumption) | assumption)
                  have hx9 := bt_at a0 x5_1
                  replace p9 := eq_true p9
                  replace q9 := eq_true q9
                  go_wp2
                  repeat (go_quiet (fail); try go_wp2)
                  go_meet
                  case rel => exact ⟨_, (decide ((bt a0 x5_1) > 126)), (by first | rfl | (simp; done) | (simp [*]; done)), H', ⟨by have := HK1.out; first | omega | exact Nat.le_refl _⟩, ⟨by (with_reducible repeat (first | apply Kd.R_alloc | apply Kd.R_drewN | apply Kd.R_drew)); exact HO_4.out⟩, ⟨by repeat (first | (with_reducible first | exact HB.out | apply below_alloc | apply pw_below_drewN | apply below_drew1) | exact HB.out)⟩⟩
              · rw [if_neg c6] at H
                exact absurd H (by simp)
            case rest =>
              clear HC5
              try clear c2
              try clear c2b0
              try clear c2b1
              try clear p2
              try clear c3
              try clear c3b0
              try clear c3b1
              try clear c4
              try clear c4b0
              try clear c6
              try clear c6b0
              try clear p7
              try clear q7
              try clear hx7
              try clear c8
              try clear c8b0
              try clear p9
              try clear q9
              try clear hx9
              try clear p2
              try clear p7
              try clear p9
              try clear q7
              try clear q9
              obtain ⟨kq, x26_4, rfl, HA, HJ4, HO_4, HB⟩ := hcut
              cases kq with
              | zero => exact absurd HA.out (by simp [bellmanref19_Unword.j1])
              | succ kj4 =>
                have H := HA.out
                clear HA
                simp only [bellmanref19_Unword.j1] at H
                by_cases c10 : x26_4 = true
                · subst c10
                  have H1 : (some ((⟨#[]⟩ : ByteArray), false)) = some (r1, r2) := by rw [if_pos rfl] at H; exact H
                  clear H
                  have H := H1
                  clear H1
                  simp only [Option.some.injEq, Prod.mk.injEq] at H
                  obtain ⟨rfl, rfl⟩ := H
                  go_wp2
                  repeat (go_quiet (fail); try go_wp2)
                  go_ret2
                  exact ⟨by first | rfl | (simp [errW_none, errW_some] <;> rfl) | (simp [*, errW_none, errW_some] <;> rfl), by repeat (first | (with_reducible first | exact HB.out | apply below_alloc | apply pw_below_drewN | apply below_drew1) | exact HB.out)⟩
                · replace c10 := Bool.eq_false_iff.mpr c10
                  subst c10
                  have H1 : (if 0 ≤ x5_1 then (if x5_1 < (a0.size : Int) then (if (bt a0 x5_1) = 37 then (if (wrap64 (x5_1 + 2)) ≥ (a0.size : Int) then (bellmanref19_Unword.j2 kj4 a0 x4_1 x5_1 true) else (if 0 ≤ (wrap64 (x5_1 + 1)) then (if (wrap64 (x5_1 + 1)) < (a0.size : Int) then ((bellmanref19_digit.f kj4 (bt a0 (wrap64 (x5_1 + 1)))).bind fun t128 => (if t128 = 16 then (bellmanref19_Unword.j2 kj4 a0 x4_1 x5_1 true) else (if 0 ≤ (wrap64 (x5_1 + 2)) then (if (wrap64 (x5_1 + 2)) < (a0.size : Int) then ((bellmanref19_digit.f kj4 (bt a0 (wrap64 (x5_1 + 2)))).bind fun t129 => (bellmanref19_Unword.j2 kj4 a0 x4_1 x5_1 (t129 == 16))) else (none)) else (none)))) else (none)) else (none))) else (if x4_1.length < 140737488355328 then (bellmanref19_Unword.l0 kj4 a0 (x4_1 ++ [bt a0 x5_1]) (wrap64 (x5_1 + 1))) else (none))) else (none)) else (none)) = some (r1, r2) := by rw [if_neg (show ¬ (false = true) by decide)] at H; exact H
                  clear H
                  have H := H1
                  clear H1
                  by_cases c11 : 0 ≤ x5_1
                  · rw [if_pos c11] at H
                    have c11b0 : decide (0 ≤ x5_1) = true := decide_eq_true c11
                    clear c11
                    by_cases c12 : x5_1 < (a0.size : Int)
                    · rw [if_pos c12] at H
                      have c12b0 : decide (x5_1 < (a0.size : Int)) = true := decide_eq_true c12
                      clear c12
                      by_cases c14 : (bt a0 x5_1) = 37
                      · rw [if_pos c14] at H
                        have c14b0 : ((bt a0 x5_1) == 37) = true := beq_iff_eq.mpr c14
                        have c14b1 : ((bt a0 x5_1) != 37) = false := bne_eq_false_iff_eq.mpr c14
                        clear c14
                        have HC15 := Aside0.mk H
                        clear H
                        have p13 : 0 ≤ (x5_1 : Int) := of_decide_eq_true (by first | (with_reducible assumption) | assumption)
                        have q13 : x5_1 < (a0.size : Int) := of_decide_eq_true (by first | (with_reducible assumption) | assumption)
                        have hx13 := bt_at a0 x5_1
                        replace p13 := eq_true p13
                        replace q13 := eq_true q13
                        go_upto_region 13 with (fail)
                        repeat (go_quiet (fail); go_upto_region 13 with (fail))
                        go_cut [57] (fun v57 wc => ∃ (kq : Nat) (x57_14 : Bool), v57 = .bool x57_14 ∧ Aside0 (bellmanref19_Unword.j2 kq a0 x4_1 x5_1 x57_14 = some (r1, r2)) ∧ Aside0 (kq ≤ kj4) ∧ Aside0 (Kd.R (Kd.int .u8) 5 wc w.heap.size (fun _ => True) u4 x4_1) ∧ Aside0 (Below w.heap.size w wc))
                        case first =>
                          have H := HC15.out
                          clear HC15
                          by_cases c16 : (wrap64 (x5_1 + 2)) ≥ (a0.size : Int)
                          · rw [if_pos c16] at H
                            have c16b0 : decide ((a0.size : Int) ≤ (wrap64 (x5_1 + 2))) = true := decide_eq_true c16
                            clear c16
                            (first | rw [c16b0] | (simp only [i64_w, i32_w]; rw [c16b0]) | skip)
                            have H' := Aside0.mk H
                            clear H
                            go_wp2
                            repeat (go_quiet (fail); try go_wp2)
                            go_meet
                            case rel => exact ⟨_, (true), (by first | rfl | (simp; done) | (simp [*]; done)), H', ⟨by have := HK1.out; have := HJ4.out; first | omega | exact Nat.le_refl _⟩, ⟨by (with_reducible repeat (first | apply Kd.R_alloc | apply Kd.R_drewN | apply Kd.R_drew)); exact HO_4.out⟩, ⟨by repeat (first | (with_reducible first | exact HB.out | apply below_alloc | apply pw_below_drewN | apply below_drew1) | exact HB.out)⟩⟩
                          · rw [if_neg c16] at H
                            have c16b0 : decide ((a0.size : Int) ≤ (wrap64 (x5_1 + 2))) = false := decide_eq_false c16
                            clear c16
                            (first | rw [c16b0] | (simp only [i64_w, i32_w]; rw [c16b0]) | skip)
                            obtain ⟨ji17, hji17⟩ : ∃ j_ : Int, (wrap64 (x5_1 + 1)) = j_ := ⟨_, rfl⟩
                            replace H : (if 0 ≤ (ji17) then (if (ji17) < (a0.size : Int) then ((bellmanref19_digit.f kj4 (bt a0 (ji17))).bind fun t128 => (if t128 = 16 then (bellmanref19_Unword.j2 kj4 a0 x4_1 x5_1 true) else (if 0 ≤ (wrap64 (x5_1 + 2)) then (if (wrap64 (x5_1 + 2)) < (a0.size : Int) then ((bellmanref19_digit.f kj4 (bt a0 (wrap64 (x5_1 + 2)))).bind fun t129 => (bellmanref19_Unword.j2 kj4 a0 x4_1 x5_1 (t129 == 16))) else (none)) else (none)))) else (none)) else (none)) = some (r1, r2) := by first | (rw [hji17] at H; exact H) | (simp only [hji17] at H ⊢; exact H)
                            have hji17w : (IntKind.i64.wrap (x5_1 + 1)) = ji17 := (i64_w _).trans hji17
                            by_cases c18 : 0 ≤ (ji17)
                            · rw [if_pos c18] at H
                              have c18b0 : decide (0 ≤ (ji17)) = true := decide_eq_true c18
                              clear c18
                              by_cases c19 : (ji17) < (a0.size : Int)
                              · rw [if_pos c19] at H
                                have c19b0 : decide ((ji17) < (a0.size : Int)) = true := decide_eq_true c19
                                clear c19
                                replace H := Option.bind_eq_some_iff.mp H
                                obtain ⟨t128, A210, H⟩ := H
                                replace H : (if t128 = 16 then (bellmanref19_Unword.j2 kj4 a0 x4_1 x5_1 true) else (if 0 ≤ (wrap64 (x5_1 + 2)) then (if (wrap64 (x5_1 + 2)) < (a0.size : Int) then ((bellmanref19_digit.f kj4 (bt a0 (wrap64 (x5_1 + 2)))).bind fun t129 => (bellmanref19_Unword.j2 kj4 a0 x4_1 x5_1 (t129 == 16))) else (none)) else (none))) = some (r1, r2) := H
                                have A21 := Aside0.mk A210
                                clear A210
                                by_cases c22 : t128 = 16
                                · rw [if_pos c22] at H
                                  have c22b0 : (t128 == 16) = true := beq_iff_eq.mpr c22
                                  have c22b1 : (t128 != 16) = false := bne_eq_false_iff_eq.mpr c22
                                  clear c22
                                  have H' := Aside0.mk H
                                  clear H
                                  have p20 : 0 ≤ ((ji17) : Int) := of_decide_eq_true (by first | (with_reducible assumption) | assumption)
                                  have q20 : (ji17) < (a0.size : Int) := of_decide_eq_true (by first | (with_reducible assumption) | assumption)
                                  have hx20 := bt_at a0 (ji17)
                                  replace p20 := eq_true p20
                                  replace q20 := eq_true q20
                                  go_wp2_with (first | (go_at_call 65; (with_reducible refine (bellmanref19_digit.calls kj4 (bt a0 (ji17)) t128 _ A21.out).mono ?_); rintro e w' ⟨rfl, ⟨nd, rfl⟩⟩; (try first | exact ⟨rfl, _, World.drewN_drewN _ _ _⟩ | exact ⟨rfl, _, Eq.trans (World.drewN_drewN _ _ _) (congrArg (World.drewN _) (Nat.add_assoc _ _ _))⟩)))
                                  repeat (go_quiet (first | (go_at_call 65; (with_reducible refine (bellmanref19_digit.calls kj4 (bt a0 (ji17)) t128 _ A21.out).mono ?_); rintro e w' ⟨rfl, ⟨nd, rfl⟩⟩; (try first | exact ⟨rfl, _, World.drewN_drewN _ _ _⟩ | exact ⟨rfl, _, Eq.trans (World.drewN_drewN _ _ _) (congrArg (World.drewN _) (Nat.add_assoc _ _ _))⟩))); try go_wp2_with (first | (go_at_call 65; (with_reducible refine (bellmanref19_digit.calls kj4 (bt a0 (ji17)) t128 _ A21.out).mono ?_); rintro e w' ⟨rfl, ⟨nd, rfl⟩⟩; (try first | exact ⟨rfl, _, World.drewN_drewN _ _ _⟩ | exact ⟨rfl, _, Eq.trans (World.drewN_drewN _ _ _) (congrArg (World.drewN _) (Nat.add_assoc _ _ _))⟩))))
                                  go_meet
                                  case rel => exact ⟨_, (true), (by first | rfl | (simp; done) | (simp [*]; done)), H', ⟨by have := HK1.out; have := HJ4.out; first | omega | exact Nat.le_refl _⟩, ⟨by (with_reducible repeat (first | apply Kd.R_alloc | apply Kd.R_drewN | apply Kd.R_drew)); exact HO_4.out⟩, ⟨by repeat (first | (with_reducible first | exact HB.out | apply below_alloc | apply pw_below_drewN | apply below_drew1) | exact HB.out)⟩⟩
                                · rw [if_neg c22] at H
                                  have c22b0 : (t128 == 16) = false := beq_eq_false_iff_ne.mpr c22
                                  have c22b1 : (t128 != 16) = true := bne_iff_ne.mpr c22
                                  obtain ⟨ji23, hji23⟩ : ∃ j_ : Int, (wrap64 (x5_1 + 2)) = j_ := ⟨_, rfl⟩
                                  replace H : (if 0 ≤ (ji23) then (if (ji23) < (a0.size : Int) then ((bellmanref19_digit.f kj4 (bt a0 (ji23))).bind fun t129 => (bellmanref19_Unword.j2 kj4 a0 x4_1 x5_1 (t129 == 16))) else (none)) else (none)) = some (r1, r2) := by first | (rw [hji23] at H; exact H) | (simp only [hji23] at H ⊢; exact H)
                                  (try rw [hji23] at c16b0)
                                  (try rw [hji23] at A21)
                                  have hji23w : (IntKind.i64.wrap (x5_1 + 2)) = ji23 := (i64_w _).trans hji23
                                  by_cases c24 : 0 ≤ (ji23)
                                  · rw [if_pos c24] at H
                                    have c24b0 : decide (0 ≤ (ji23)) = true := decide_eq_true c24
                                    clear c24
                                    by_cases c25 : (ji23) < (a0.size : Int)
                                    · rw [if_pos c25] at H
                                      have c25b0 : decide ((ji23) < (a0.size : Int)) = true := decide_eq_true c25
                                      clear c25
                                      replace H := Option.bind_eq_some_iff.mp H
                                      obtain ⟨t129, A270, H⟩ := H
                                      replace H : (bellmanref19_Unword.j2 kj4 a0 x4_1 x5_1 (t129 == 16)) = some (r1, r2) := H
                                      have A27 := Aside0.mk A270
                                      clear A270
                                      have H' := Aside0.mk H
                                      clear H
                                      have p20 : 0 ≤ ((ji17) : Int) := of_decide_eq_true (by first | (with_reducible assumption) | assumption)
                                      have q20 : (ji17) < (a0.size : Int) := of_decide_eq_true (by first | (with_reducible assumption) | assumption)
                                      have hx20 := bt_at a0 (ji17)
                                      replace p20 := eq_true p20
                                      replace q20 := eq_true q20
                                      go_wp2_with (first | (go_at_call 65; (with_reducible refine (bellmanref19_digit.calls kj4 (bt a0 (ji17)) t128 _ A21.out).mono ?_); rintro e w' ⟨rfl, ⟨nd, rfl⟩⟩; (try first | exact ⟨rfl, _, World.drewN_drewN _ _ _⟩ | exact ⟨rfl, _, Eq.trans (World.drewN_drewN _ _ _) (congrArg (World.drewN _) (Nat.add_assoc _ _ _))⟩); have p26 : 0 ≤ ((ji23) : Int) := of_decide_eq_true (by first | (with_reducible assumption) | assumption); have q26 : (ji23) < (a0.size : Int) := of_decide_eq_true (by first | (with_reducible assumption) | assumption); have hx26 := bt_at a0 (ji23); replace p26 := eq_true p26; replace q26 := eq_true q26) | (go_at_call 65; (with_reducible refine (bellmanref19_digit.calls kj4 (bt a0 (ji23)) t129 _ A27.out).mono ?_); rintro e w' ⟨rfl, ⟨nd, rfl⟩⟩; (try first | exact ⟨rfl, _, World.drewN_drewN _ _ _⟩ | exact ⟨rfl, _, Eq.trans (World.drewN_drewN _ _ _) (congrArg (World.drewN _) (Nat.add_assoc _ _ _))⟩)))
                                      repeat (go_quiet (first | (go_at_call 65; (with_reducible refine (bellmanref19_digit.calls kj4 (bt a0 (ji17)) t128 _ A21.out).mono ?_); rintro e w' ⟨rfl, ⟨nd, rfl⟩⟩; (try first | exact ⟨rfl, _, World.drewN_drewN _ _ _⟩ | exact ⟨rfl, _, Eq.trans (World.drewN_drewN _ _ _) (congrArg (World.drewN _) (Nat.add_assoc _ _ _))⟩); have p26 : 0 ≤ ((ji23) : Int) := of_decide_eq_true (by first | (with_reducible assumption) | assumption); have q26 : (ji23) < (a0.size : Int) := of_decide_eq_true (by first | (with_reducible assumption) | assumption); have hx26 := bt_at a0 (ji23); replace p26 := eq_true p26; replace q26 := eq_true q26) | (go_at_call 65; (with_reducible refine (bellmanref19_digit.calls kj4 (bt a0 (ji23)) t129 _ A27.out).mono ?_); rintro e w' ⟨rfl, ⟨nd, rfl⟩⟩; (try first | exact ⟨rfl, _, World.drewN_drewN _ _ _⟩ | exact ⟨rfl, _, Eq.trans (World.drewN_drewN _ _ _) (congrArg (World.drewN _) (Nat.add_assoc _ _ _))⟩))); try go_wp2_with (first | (go_at_call 65; (with_reducible refine (bellmanref19_digit.calls kj4 (bt a0 (ji17)) t128 _ A21.out).mono ?_); rintro e w' ⟨rfl, ⟨nd, rfl⟩⟩; (try first | exact ⟨rfl, _, World.drewN_drewN _ _ _⟩ | exact ⟨rfl, _, Eq.trans (World.drewN_drewN _ _ _) (congrArg (World.drewN _) (Nat.add_assoc _ _ _))⟩); have p26 : 0 ≤ ((ji23) : Int) := of_decide_eq_true (by first | (with_reducible assumption) | assumption); have q26 : (ji23) < (a0.size : Int) := of_decide_eq_true (by first | (with_reducible assumption) | assumption); have hx26 := bt_at a0 (ji23); replace p26 := eq_true p26; replace q26 := eq_true q26) | (go_at_call 65; (with_reducible refine (bellmanref19_digit.calls kj4 (bt a0 (ji23)) t129 _ A27.out).mono ?_); rintro e w' ⟨rfl, ⟨nd, rfl⟩⟩; (try first | exact ⟨rfl, _, World.drewN_drewN _ _ _⟩ | exact ⟨rfl, _, Eq.trans (World.drewN_drewN _ _ _) (congrArg (World.drewN _) (Nat.add_assoc _ _ _))⟩))))
                                      go_meet
                                      case rel => exact ⟨_, ((t129 == 16)), (by first | rfl | (simp; done) | (simp [*]; done)), H', ⟨by have := HK1.out; have := HJ4.out; first | omega | exact Nat.le_refl _⟩, ⟨by (with_reducible repeat (first | apply Kd.R_alloc | apply Kd.R_drewN | apply Kd.R_drew)); exact HO_4.out⟩, ⟨by repeat (first | (with_reducible first | exact HB.out | apply below_alloc | apply pw_below_drewN | apply below_drew1) | exact HB.out)⟩⟩
                                    · rw [if_neg c25] at H
                                      exact absurd H (by simp)
                                  · rw [if_neg c24] at H
                                    exact absurd H (by simp)
                              · rw [if_neg c19] at H
                                exact absurd H (by simp)
                            · rw [if_neg c18] at H
                              exact absurd H (by simp)
                        case rest =>
                          clear HC15
                          try clear c1
                          try clear p1
                          try clear q1
                          try clear hx1
                          try clear c2
                          try clear c2b0
                          try clear c2b1
                          try clear p2
                          try clear q2
                          try clear hx2
                          try clear c3
                          try clear c3b0
                          try clear c3b1
                          try clear c4
                          try clear c4b0
                          try clear c6
                          try clear c6b0
                          try clear p6
                          try clear p7
                          try clear q7
                          try clear hx7
                          try clear c8
                          try clear c8b0
                          try clear p9
                          try clear q9
                          try clear hx9
                          try clear c10
                          try clear c11
                          try clear c11b0
                          try clear c12
                          try clear c12b0
                          try clear p13
                          try clear q13
                          try clear hx13
                          try clear c14
                          try clear c14b0
                          try clear c14b1
                          try clear c16
                          try clear c16b0
                          try clear c18
                          try clear c18b0
                          try clear c19
                          try clear c19b0
                          try clear p20
                          try clear q20
                          try clear hx20
                          try clear c22
                          try clear c22b0
                          try clear c22b1
                          try clear c24
                          try clear c24b0
                          try clear c25
                          try clear c25b0
                          try clear p26
                          try clear q26
                          try clear hx26
                          try clear p13
                          try clear p2
                          try clear p20
                          try clear p26
                          try clear p7
                          try clear p9
                          try clear q13
                          try clear q20
                          try clear q26
                          try clear q7
                          try clear q9
                          obtain ⟨kq, x57_14, rfl, HA, HJ14, HO_4, HB⟩ := hcut
                          cases kq with
                          | zero => exact absurd HA.out (by simp [bellmanref19_Unword.j2])
                          | succ kj14 =>
                            have H := HA.out
                            clear HA
                            simp only [bellmanref19_Unword.j2] at H
                            by_cases c28 : x57_14 = true
                            · subst c28
                              have H1 : (some ((⟨#[]⟩ : ByteArray), false)) = some (r1, r2) := by rw [if_pos rfl] at H; exact H
                              clear H
                              have H := H1
                              clear H1
                              simp only [Option.some.injEq, Prod.mk.injEq] at H
                              obtain ⟨rfl, rfl⟩ := H
                              go_wp2
                              repeat (go_quiet (fail); try go_wp2)
                              go_ret2
                              exact ⟨by first | rfl | (simp [errW_none, errW_some] <;> rfl) | (simp [*, errW_none, errW_some] <;> rfl), by repeat (first | (with_reducible first | exact HB.out | apply below_alloc | apply pw_below_drewN | apply below_drew1) | exact HB.out)⟩
                            · replace c28 := Bool.eq_false_iff.mpr c28
                              subst c28
                              have H1 : (if 0 ≤ (wrap64 (x5_1 + 1)) then (if (wrap64 (x5_1 + 1)) < (a0.size : Int) then ((bellmanref19_digit.f kj14 (bt a0 (wrap64 (x5_1 + 1)))).bind fun t130 => (if 0 ≤ (wrap64 (x5_1 + 2)) then (if (wrap64 (x5_1 + 2)) < (a0.size : Int) then ((bellmanref19_digit.f kj14 (bt a0 (wrap64 (x5_1 + 2)))).bind fun t131 => (if ((wrap64 ((wrap64 (t130 * 16)) + t131)) % 256) ≥ 33 then (if ((wrap64 ((wrap64 (t130 * 16)) + t131)) % 256) ≤ 126 then (if ((wrap64 ((wrap64 (t130 * 16)) + t131)) % 256) = 37 then (if x4_1.length < 140737488355328 then (bellmanref19_Unword.l0 kj14 a0 (x4_1 ++ [(wrap64 ((wrap64 (t130 * 16)) + t131)) % 256]) (wrap64 ((wrap64 (x5_1 + 2)) + 1))) else (none)) else (some ((⟨#[]⟩ : ByteArray), false))) else (if x4_1.length < 140737488355328 then (bellmanref19_Unword.l0 kj14 a0 (x4_1 ++ [(wrap64 ((wrap64 (t130 * 16)) + t131)) % 256]) (wrap64 ((wrap64 (x5_1 + 2)) + 1))) else (none))) else (if x4_1.length < 140737488355328 then (bellmanref19_Unword.l0 kj14 a0 (x4_1 ++ [(wrap64 ((wrap64 (t130 * 16)) + t131)) % 256]) (wrap64 ((wrap64 (x5_1 + 2)) + 1))) else (none)))) else (none)) else (none))) else (none)) else (none)) = some (r1, r2) := by rw [if_neg (show ¬ (false = true) by decide)] at H; exact H
                              clear H
                              have H := H1
                              clear H1
                              obtain ⟨ji29, hji29⟩ : ∃ j_ : Int, (wrap64 (x5_1 + 1)) = j_ := ⟨_, rfl⟩
                              replace H : (if 0 ≤ (ji29) then (if (ji29) < (a0.size : Int) then ((bellmanref19_digit.f kj14 (bt a0 (ji29))).bind fun t130 => (if 0 ≤ (wrap64 (x5_1 + 2)) then (if (wrap64 (x5_1 + 2)) < (a0.size : Int) then ((bellmanref19_digit.f kj14 (bt a0 (wrap64 (x5_1 + 2)))).bind fun t131 => (if ((wrap64 ((wrap64 (t130 * 16)) + t131)) % 256) ≥ 33 then (if ((wrap64 ((wrap64 (t130 * 16)) + t131)) % 256) ≤ 126 then (if ((wrap64 ((wrap64 (t130 * 16)) + t131)) % 256) = 37 then (if x4_1.length < 140737488355328 then (bellmanref19_Unword.l0 kj14 a0 (x4_1 ++ [(wrap64 ((wrap64 (t130 * 16)) + t131)) % 256]) (wrap64 ((wrap64 (x5_1 + 2)) + 1))) else (none)) else (some ((⟨#[]⟩ : ByteArray), false))) else (if x4_1.length < 140737488355328 then (bellmanref19_Unword.l0 kj14 a0 (x4_1 ++ [(wrap64 ((wrap64 (t130 * 16)) + t131)) % 256]) (wrap64 ((wrap64 (x5_1 + 2)) + 1))) else (none))) else (if x4_1.length < 140737488355328 then (bellmanref19_Unword.l0 kj14 a0 (x4_1 ++ [(wrap64 ((wrap64 (t130 * 16)) + t131)) % 256]) (wrap64 ((wrap64 (x5_1 + 2)) + 1))) else (none)))) else (none)) else (none))) else (none)) else (none)) = some (r1, r2) := by first | (rw [hji29] at H; exact H) | (simp only [hji29] at H ⊢; exact H)
                              have hji29w : (IntKind.i64.wrap (x5_1 + 1)) = ji29 := (i64_w _).trans hji29
                              by_cases c30 : 0 ≤ (ji29)
                              · rw [if_pos c30] at H
                                have c30b0 : decide (0 ≤ (ji29)) = true := decide_eq_true c30
                                clear c30
                                by_cases c31 : (ji29) < (a0.size : Int)
                                · rw [if_pos c31] at H
                                  have c31b0 : decide ((ji29) < (a0.size : Int)) = true := decide_eq_true c31
                                  clear c31
                                  replace H := Option.bind_eq_some_iff.mp H
                                  obtain ⟨t130, A330, H⟩ := H
                                  replace H : (if 0 ≤ (wrap64 (x5_1 + 2)) then (if (wrap64 (x5_1 + 2)) < (a0.size : Int) then ((bellmanref19_digit.f kj14 (bt a0 (wrap64 (x5_1 + 2)))).bind fun t131 => (if ((wrap64 ((wrap64 (t130 * 16)) + t131)) % 256) ≥ 33 then (if ((wrap64 ((wrap64 (t130 * 16)) + t131)) % 256) ≤ 126 then (if ((wrap64 ((wrap64 (t130 * 16)) + t131)) % 256) = 37 then (if x4_1.length < 140737488355328 then (bellmanref19_Unword.l0 kj14 a0 (x4_1 ++ [(wrap64 ((wrap64 (t130 * 16)) + t131)) % 256]) (wrap64 ((wrap64 (x5_1 + 2)) + 1))) else (none)) else (some ((⟨#[]⟩ : ByteArray), false))) else (if x4_1.length < 140737488355328 then (bellmanref19_Unword.l0 kj14 a0 (x4_1 ++ [(wrap64 ((wrap64 (t130 * 16)) + t131)) % 256]) (wrap64 ((wrap64 (x5_1 + 2)) + 1))) else (none))) else (if x4_1.length < 140737488355328 then (bellmanref19_Unword.l0 kj14 a0 (x4_1 ++ [(wrap64 ((wrap64 (t130 * 16)) + t131)) % 256]) (wrap64 ((wrap64 (x5_1 + 2)) + 1))) else (none)))) else (none)) else (none)) = some (r1, r2) := H
                                  have A33 := Aside0.mk A330
                                  clear A330
                                  obtain ⟨ji34, hji34⟩ : ∃ j_ : Int, (wrap64 (x5_1 + 2)) = j_ := ⟨_, rfl⟩
                                  replace H : (if 0 ≤ (ji34) then (if (ji34) < (a0.size : Int) then ((bellmanref19_digit.f kj14 (bt a0 (ji34))).bind fun t131 => (if ((wrap64 ((wrap64 (t130 * 16)) + t131)) % 256) ≥ 33 then (if ((wrap64 ((wrap64 (t130 * 16)) + t131)) % 256) ≤ 126 then (if ((wrap64 ((wrap64 (t130 * 16)) + t131)) % 256) = 37 then (if x4_1.length < 140737488355328 then (bellmanref19_Unword.l0 kj14 a0 (x4_1 ++ [(wrap64 ((wrap64 (t130 * 16)) + t131)) % 256]) (wrap64 ((ji34) + 1))) else (none)) else (some ((⟨#[]⟩ : ByteArray), false))) else (if x4_1.length < 140737488355328 then (bellmanref19_Unword.l0 kj14 a0 (x4_1 ++ [(wrap64 ((wrap64 (t130 * 16)) + t131)) % 256]) (wrap64 ((ji34) + 1))) else (none))) else (if x4_1.length < 140737488355328 then (bellmanref19_Unword.l0 kj14 a0 (x4_1 ++ [(wrap64 ((wrap64 (t130 * 16)) + t131)) % 256]) (wrap64 ((ji34) + 1))) else (none)))) else (none)) else (none)) = some (r1, r2) := by first | (rw [hji34] at H; exact H) | (simp only [hji34] at H ⊢; exact H)
                                  (try rw [hji34] at A33)
                                  have hji34w : (IntKind.i64.wrap (x5_1 + 2)) = ji34 := (i64_w _).trans hji34
                                  by_cases c35 : 0 ≤ (ji34)
                                  · rw [if_pos c35] at H
                                    have c35b0 : decide (0 ≤ (ji34)) = true := decide_eq_true c35
                                    clear c35
                                    by_cases c36 : (ji34) < (a0.size : Int)
                                    · rw [if_pos c36] at H
                                      have c36b0 : decide ((ji34) < (a0.size : Int)) = true := decide_eq_true c36
                                      clear c36
                                      replace H := Option.bind_eq_some_iff.mp H
                                      obtain ⟨t131, A380, H⟩ := H
                                      replace H : (if ((wrap64 ((wrap64 (t130 * 16)) + t131)) % 256) ≥ 33 then (if ((wrap64 ((wrap64 (t130 * 16)) + t131)) % 256) ≤ 126 then (if ((wrap64 ((wrap64 (t130 * 16)) + t131)) % 256) = 37 then (if x4_1.length < 140737488355328 then (bellmanref19_Unword.l0 kj14 a0 (x4_1 ++ [(wrap64 ((wrap64 (t130 * 16)) + t131)) % 256]) (wrap64 ((ji34) + 1))) else (none)) else (some ((⟨#[]⟩ : ByteArray), false))) else (if x4_1.length < 140737488355328 then (bellmanref19_Unword.l0 kj14 a0 (x4_1 ++ [(wrap64 ((wrap64 (t130 * 16)) + t131)) % 256]) (wrap64 ((ji34) + 1))) else (none))) else (if x4_1.length < 140737488355328 then (bellmanref19_Unword.l0 kj14 a0 (x4_1 ++ [(wrap64 ((wrap64 (t130 * 16)) + t131)) % 256]) (wrap64 ((ji34) + 1))) else (none))) = some (r1, r2) := H
                                      have A38 := Aside0.mk A380
                                      clear A380
                                      by_cases c39 : ((wrap64 ((wrap64 (t130 * 16)) + t131)) % 256) ≥ 33
                                      · rw [if_pos c39] at H
                                        have c39b0 : decide (33 ≤ ((wrap64 ((wrap64 (t130 * 16)) + t131)) % 256)) = true := decide_eq_true c39
                                        clear c39
                                        by_cases c40 : ((wrap64 ((wrap64 (t130 * 16)) + t131)) % 256) ≤ 126
                                        · rw [if_pos c40] at H
                                          have c40b0 : decide (((wrap64 ((wrap64 (t130 * 16)) + t131)) % 256) ≤ 126) = true := decide_eq_true c40
                                          clear c40
                                          by_cases c41 : ((wrap64 ((wrap64 (t130 * 16)) + t131)) % 256) = 37
                                          · rw [if_pos c41] at H
                                            have c41b0 : (((wrap64 ((wrap64 (t130 * 16)) + t131)) % 256) == 37) = true := beq_iff_eq.mpr c41
                                            have c41b1 : (((wrap64 ((wrap64 (t130 * 16)) + t131)) % 256) != 37) = false := bne_eq_false_iff_eq.mpr c41
                                            clear c41
                                            by_cases c42 : x4_1.length < 140737488355328
                                            · rw [if_pos c42] at H
                                              have LMc42 := Aside0.mk c42
                                              clear c42
                                              obtain ⟨y132, hy132⟩ : ∃ y_ : List Int, y_ = (x4_1 ++ [(wrap64 ((wrap64 (t130 * 16)) + t131)) % 256]) := ⟨_, rfl⟩
                                              replace H : (bellmanref19_Unword.l0 kj14 a0 y132 (wrap64 ((ji34) + 1))) = some (r1, r2) := by first | (rw [hy132]; with_reducible exact H) | (have H2_ := (Option.bind_some _ _).symm.trans H; rw [hy132]; with_reducible exact H2_) | (have H2_ := (Option.bind_some _ _).symm.trans H; with_reducible exact H2_) | with_reducible exact H | (rw [hy132]; exact H) | exact H
                                              have Ny132 := Aside0.mk hy132
                                              clear hy132
                                              have H' := Aside0.mk H
                                              clear H
                                              have p32 : 0 ≤ ((ji29) : Int) := of_decide_eq_true (by first | (with_reducible assumption) | assumption)
                                              have q32 : (ji29) < (a0.size : Int) := of_decide_eq_true (by first | (with_reducible assumption) | assumption)
                                              have hx32 := bt_at a0 (ji29)
                                              replace p32 := eq_true p32
                                              replace q32 := eq_true q32
                                              go_wp2_with (first | (go_at_call 65; (with_reducible refine (bellmanref19_digit.calls kj14 (bt a0 (ji29)) t130 _ A33.out).mono ?_); rintro e w' ⟨rfl, ⟨nd, rfl⟩⟩; (try first | exact ⟨rfl, _, World.drewN_drewN _ _ _⟩ | exact ⟨rfl, _, Eq.trans (World.drewN_drewN _ _ _) (congrArg (World.drewN _) (Nat.add_assoc _ _ _))⟩); have p37 : 0 ≤ ((ji34) : Int) := of_decide_eq_true (by first | (with_reducible assumption) | assumption); have q37 : (ji34) < (a0.size : Int) := of_decide_eq_true (by first | (with_reducible assumption) | assumption); have hx37 := bt_at a0 (ji34); replace p37 := eq_true p37; replace q37 := eq_true q37) | (go_at_call 65; (with_reducible refine (bellmanref19_digit.calls kj14 (bt a0 (ji34)) t131 _ A38.out).mono ?_); rintro e w' ⟨rfl, ⟨nd, rfl⟩⟩; (try first | exact ⟨rfl, _, World.drewN_drewN _ _ _⟩ | exact ⟨rfl, _, Eq.trans (World.drewN_drewN _ _ _) (congrArg (World.drewN _) (Nat.add_assoc _ _ _))⟩)) | ((with_reducible refine gate_builtin (b := .append) (xs := #[.tmp 81, .tmp 83]) rfl ?_); at_builtin; refine Kd.R_append (Kd.int .u8) (w0 := w) w.heap.size rfl (.tmp 81) (.tmp 83) 74 5 (.int .u8 0) 1 rfl Tryd.underlying74 info5 rfl (by decide) (by omega) u4 x4_1 ((wrap64 ((wrap64 (t130 * 16)) + t131)) % 256) [.int .u8 ((wrap64 ((wrap64 (t130 * 16)) + t131)) % 256)] (fun _ => True) (fun _ => False) rfl rfl ?aP (fun _ hk => hk.elim) ?aF ?aO ?aB ?aS ?aL ?_; (case aP => exact rfl); (case aB => exact (by repeat (first | (with_reducible first | exact HB.out | apply below_alloc | apply pw_below_drewN | apply below_drew1) | exact HB.out))); (case aF => exact (fun _ _ => trivial)); (case aO => exact (by (with_reducible repeat (first | apply Kd.R_alloc | apply Kd.R_drewN | apply Kd.R_drew)); exact HO_4.out)); (case aS => exact (below_size (by repeat (first | (with_reducible first | exact HB.out | apply below_alloc | apply pw_below_drewN | apply below_drew1) | exact HB.out)))); (case aL => have := LMc42.out; omega); intro v133 w43 ho hb hg hat; rw [← Ny132.out] at ho; have n0_ := Aside0.mk (hb); have n1_ := Aside0.mk (ho); clear HB; clear HO_4; have HB := n0_; have HO134 := n1_; clear n0_ n1_; clear ho hb hg hat))
                                              repeat (go_quiet (first | (go_at_call 65; (with_reducible refine (bellmanref19_digit.calls kj14 (bt a0 (ji29)) t130 _ A33.out).mono ?_); rintro e w' ⟨rfl, ⟨nd, rfl⟩⟩; (try first | exact ⟨rfl, _, World.drewN_drewN _ _ _⟩ | exact ⟨rfl, _, Eq.trans (World.drewN_drewN _ _ _) (congrArg (World.drewN _) (Nat.add_assoc _ _ _))⟩); have p37 : 0 ≤ ((ji34) : Int) := of_decide_eq_true (by first | (with_reducible assumption) | assumption); have q37 : (ji34) < (a0.size : Int) := of_decide_eq_true (by first | (with_reducible assumption) | assumption); have hx37 := bt_at a0 (ji34); replace p37 := eq_true p37; replace q37 := eq_true q37) | (go_at_call 65; (with_reducible refine (bellmanref19_digit.calls kj14 (bt a0 (ji34)) t131 _ A38.out).mono ?_); rintro e w' ⟨rfl, ⟨nd, rfl⟩⟩; (try first | exact ⟨rfl, _, World.drewN_drewN _ _ _⟩ | exact ⟨rfl, _, Eq.trans (World.drewN_drewN _ _ _) (congrArg (World.drewN _) (Nat.add_assoc _ _ _))⟩)) | ((with_reducible refine gate_builtin (b := .append) (xs := #[.tmp 81, .tmp 83]) rfl ?_); at_builtin; refine Kd.R_append (Kd.int .u8) (w0 := w) w.heap.size rfl (.tmp 81) (.tmp 83) 74 5 (.int .u8 0) 1 rfl Tryd.underlying74 info5 rfl (by decide) (by omega) u4 x4_1 ((wrap64 ((wrap64 (t130 * 16)) + t131)) % 256) [.int .u8 ((wrap64 ((wrap64 (t130 * 16)) + t131)) % 256)] (fun _ => True) (fun _ => False) rfl rfl ?aP (fun _ hk => hk.elim) ?aF ?aO ?aB ?aS ?aL ?_; (case aP => exact rfl); (case aB => exact (by repeat (first | (with_reducible first | exact HB.out | apply below_alloc | apply pw_below_drewN | apply below_drew1) | exact HB.out))); (case aF => exact (fun _ _ => trivial)); (case aO => exact (by (with_reducible repeat (first | apply Kd.R_alloc | apply Kd.R_drewN | apply Kd.R_drew)); exact HO_4.out)); (case aS => exact (below_size (by repeat (first | (with_reducible first | exact HB.out | apply below_alloc | apply pw_below_drewN | apply below_drew1) | exact HB.out)))); (case aL => have := LMc42.out; omega); intro v133 w43 ho hb hg hat; rw [← Ny132.out] at ho; have n0_ := Aside0.mk (hb); have n1_ := Aside0.mk (ho); clear HB; clear HO_4; have HB := n0_; have HO134 := n1_; clear n0_ n1_; clear ho hb hg hat)); try go_wp2_with (first | (go_at_call 65; (with_reducible refine (bellmanref19_digit.calls kj14 (bt a0 (ji29)) t130 _ A33.out).mono ?_); rintro e w' ⟨rfl, ⟨nd, rfl⟩⟩; (try first | exact ⟨rfl, _, World.drewN_drewN _ _ _⟩ | exact ⟨rfl, _, Eq.trans (World.drewN_drewN _ _ _) (congrArg (World.drewN _) (Nat.add_assoc _ _ _))⟩); have p37 : 0 ≤ ((ji34) : Int) := of_decide_eq_true (by first | (with_reducible assumption) | assumption); have q37 : (ji34) < (a0.size : Int) := of_decide_eq_true (by first | (with_reducible assumption) | assumption); have hx37 := bt_at a0 (ji34); replace p37 := eq_true p37; replace q37 := eq_true q37) | (go_at_call 65; (with_reducible refine (bellmanref19_digit.calls kj14 (bt a0 (ji34)) t131 _ A38.out).mono ?_); rintro e w' ⟨rfl, ⟨nd, rfl⟩⟩; (try first | exact ⟨rfl, _, World.drewN_drewN _ _ _⟩ | exact ⟨rfl, _, Eq.trans (World.drewN_drewN _ _ _) (congrArg (World.drewN _) (Nat.add_assoc _ _ _))⟩)) | ((with_reducible refine gate_builtin (b := .append) (xs := #[.tmp 81, .tmp 83]) rfl ?_); at_builtin; refine Kd.R_append (Kd.int .u8) (w0 := w) w.heap.size rfl (.tmp 81) (.tmp 83) 74 5 (.int .u8 0) 1 rfl Tryd.underlying74 info5 rfl (by decide) (by omega) u4 x4_1 ((wrap64 ((wrap64 (t130 * 16)) + t131)) % 256) [.int .u8 ((wrap64 ((wrap64 (t130 * 16)) + t131)) % 256)] (fun _ => True) (fun _ => False) rfl rfl ?aP (fun _ hk => hk.elim) ?aF ?aO ?aB ?aS ?aL ?_; (case aP => exact rfl); (case aB => exact (by repeat (first | (with_reducible first | exact HB.out | apply below_alloc | apply pw_below_drewN | apply below_drew1) | exact HB.out))); (case aF => exact (fun _ _ => trivial)); (case aO => exact (by (with_reducible repeat (first | apply Kd.R_alloc | apply Kd.R_drewN | apply Kd.R_drew)); exact HO_4.out)); (case aS => exact (below_size (by repeat (first | (with_reducible first | exact HB.out | apply below_alloc | apply pw_below_drewN | apply below_drew1) | exact HB.out)))); (case aL => have := LMc42.out; omega); intro v133 w43 ho hb hg hat; rw [← Ny132.out] at ho; have n0_ := Aside0.mk (hb); have n1_ := Aside0.mk (ho); clear HB; clear HO_4; have HB := n0_; have HO134 := n1_; clear n0_ n1_; clear ho hb hg hat)))
                                              go_roundg kj14
                                              case measure => have := HK1.out; have := HJ4.out; have := HJ14.out; omega
                                              case rel => exact ⟨(y132), (wrap64 ((ji34) + 1)), (by first | rfl | (simp; done) | (simp only [← hji34] <;> (first | rfl | simp)) | (simp [*]; done)), H', ⟨by have := HK1.out; have := HJ4.out; have := HJ14.out; omega⟩, ⟨by (with_reducible repeat (first | apply Kd.R_alloc | apply Kd.R_drewN | apply Kd.R_drew)); exact HO134.out⟩, ⟨by repeat (first | (with_reducible first | exact HB.out | apply below_alloc | apply pw_below_drewN | apply below_drew1) | exact HB.out)⟩⟩
                                            · rw [if_neg c42] at H
                                              exact absurd H (by simp)
                                          · rw [if_neg c41] at H
                                            have c41b0 : (((wrap64 ((wrap64 (t130 * 16)) + t131)) % 256) == 37) = false := beq_eq_false_iff_ne.mpr c41
                                            have c41b1 : (((wrap64 ((wrap64 (t130 * 16)) + t131)) % 256) != 37) = true := bne_iff_ne.mpr c41
                                            simp only [Option.some.injEq, Prod.mk.injEq] at H
                                            obtain ⟨rfl, rfl⟩ := H
                                            have p32 : 0 ≤ ((ji29) : Int) := of_decide_eq_true (by first | (with_reducible assumption) | assumption)
                                            have q32 : (ji29) < (a0.size : Int) := of_decide_eq_true (by first | (with_reducible assumption) | assumption)
                                            have hx32 := bt_at a0 (ji29)
                                            replace p32 := eq_true p32
                                            replace q32 := eq_true q32
                                            go_wp2_with (first | (go_at_call 65; (with_reducible refine (bellmanref19_digit.calls kj14 (bt a0 (ji29)) t130 _ A33.out).mono ?_); rintro e w' ⟨rfl, ⟨nd, rfl⟩⟩; (try first | exact ⟨rfl, _, World.drewN_drewN _ _ _⟩ | exact ⟨rfl, _, Eq.trans (World.drewN_drewN _ _ _) (congrArg (World.drewN _) (Nat.add_assoc _ _ _))⟩); have p37 : 0 ≤ ((ji34) : Int) := of_decide_eq_true (by first | (with_reducible assumption) | assumption); have q37 : (ji34) < (a0.size : Int) := of_decide_eq_true (by first | (with_reducible assumption) | assumption); have hx37 := bt_at a0 (ji34); replace p37 := eq_true p37; replace q37 := eq_true q37) | (go_at_call 65; (with_reducible refine (bellmanref19_digit.calls kj14 (bt a0 (ji34)) t131 _ A38.out).mono ?_); rintro e w' ⟨rfl, ⟨nd, rfl⟩⟩; (try first | exact ⟨rfl, _, World.drewN_drewN _ _ _⟩ | exact ⟨rfl, _, Eq.trans (World.drewN_drewN _ _ _) (congrArg (World.drewN _) (Nat.add_assoc _ _ _))⟩)))
                                            repeat (go_quiet (first | (go_at_call 65; (with_reducible refine (bellmanref19_digit.calls kj14 (bt a0 (ji29)) t130 _ A33.out).mono ?_); rintro e w' ⟨rfl, ⟨nd, rfl⟩⟩; (try first | exact ⟨rfl, _, World.drewN_drewN _ _ _⟩ | exact ⟨rfl, _, Eq.trans (World.drewN_drewN _ _ _) (congrArg (World.drewN _) (Nat.add_assoc _ _ _))⟩); have p37 : 0 ≤ ((ji34) : Int) := of_decide_eq_true (by first | (with_reducible assumption) | assumption); have q37 : (ji34) < (a0.size : Int) := of_decide_eq_true (by first | (with_reducible assumption) | assumption); have hx37 := bt_at a0 (ji34); replace p37 := eq_true p37; replace q37 := eq_true q37) | (go_at_call 65; (with_reducible refine (bellmanref19_digit.calls kj14 (bt a0 (ji34)) t131 _ A38.out).mono ?_); rintro e w' ⟨rfl, ⟨nd, rfl⟩⟩; (try first | exact ⟨rfl, _, World.drewN_drewN _ _ _⟩ | exact ⟨rfl, _, Eq.trans (World.drewN_drewN _ _ _) (congrArg (World.drewN _) (Nat.add_assoc _ _ _))⟩))); try go_wp2_with (first | (go_at_call 65; (with_reducible refine (bellmanref19_digit.calls kj14 (bt a0 (ji29)) t130 _ A33.out).mono ?_); rintro e w' ⟨rfl, ⟨nd, rfl⟩⟩; (try first | exact ⟨rfl, _, World.drewN_drewN _ _ _⟩ | exact ⟨rfl, _, Eq.trans (World.drewN_drewN _ _ _) (congrArg (World.drewN _) (Nat.add_assoc _ _ _))⟩); have p37 : 0 ≤ ((ji34) : Int) := of_decide_eq_true (by first | (with_reducible assumption) | assumption); have q37 : (ji34) < (a0.size : Int) := of_decide_eq_true (by first | (with_reducible assumption) | assumption); have hx37 := bt_at a0 (ji34); replace p37 := eq_true p37; replace q37 := eq_true q37) | (go_at_call 65; (with_reducible refine (bellmanref19_digit.calls kj14 (bt a0 (ji34)) t131 _ A38.out).mono ?_); rintro e w' ⟨rfl, ⟨nd, rfl⟩⟩; (try first | exact ⟨rfl, _, World.drewN_drewN _ _ _⟩ | exact ⟨rfl, _, Eq.trans (World.drewN_drewN _ _ _) (congrArg (World.drewN _) (Nat.add_assoc _ _ _))⟩))))
                                            go_ret2
                                            exact ⟨by first | rfl | (simp [errW_none, errW_some] <;> rfl) | (simp only [← hji29, ← hji34]; first | rfl | (simp [errW_none, errW_some] <;> rfl)) | (simp [*, errW_none, errW_some] <;> rfl), by repeat (first | (with_reducible first | exact HB.out | apply below_alloc | apply pw_below_drewN | apply below_drew1) | exact HB.out)⟩
                                        · rw [if_neg c40] at H
                                          have c40b0 : decide (((wrap64 ((wrap64 (t130 * 16)) + t131)) % 256) ≤ 126) = false := decide_eq_false c40
                                          clear c40
                                          by_cases c44 : x4_1.length < 140737488355328
                                          · rw [if_pos c44] at H
                                            have LMc44 := Aside0.mk c44
                                            clear c44
                                            obtain ⟨y135, hy135⟩ : ∃ y_ : List Int, y_ = (x4_1 ++ [(wrap64 ((wrap64 (t130 * 16)) + t131)) % 256]) := ⟨_, rfl⟩
                                            replace H : (bellmanref19_Unword.l0 kj14 a0 y135 (wrap64 ((ji34) + 1))) = some (r1, r2) := by first | (rw [hy135]; with_reducible exact H) | (have H2_ := (Option.bind_some _ _).symm.trans H; rw [hy135]; with_reducible exact H2_) | (have H2_ := (Option.bind_some _ _).symm.trans H; with_reducible exact H2_) | with_reducible exact H | (rw [hy135]; exact H) | exact H
                                            have Ny135 := Aside0.mk hy135
                                            clear hy135
                                            have H' := Aside0.mk H
                                            clear H
                                            have p32 : 0 ≤ ((ji29) : Int) := of_decide_eq_true (by first | (with_reducible assumption) | assumption)
                                            have q32 : (ji29) < (a0.size : Int) := of_decide_eq_true (by first | (with_reducible assumption) | assumption)
                                            have hx32 := bt_at a0 (ji29)
                                            replace p32 := eq_true p32
                                            replace q32 := eq_true q32
                                            go_wp2_with (first | (go_at_call 65; (with_reducible refine (bellmanref19_digit.calls kj14 (bt a0 (ji29)) t130 _ A33.out).mono ?_); rintro e w' ⟨rfl, ⟨nd, rfl⟩⟩; (try first | exact ⟨rfl, _, World.drewN_drewN _ _ _⟩ | exact ⟨rfl, _, Eq.trans (World.drewN_drewN _ _ _) (congrArg (World.drewN _) (Nat.add_assoc _ _ _))⟩); have p37 : 0 ≤ ((ji34) : Int) := of_decide_eq_true (by first | (with_reducible assumption) | assumption); have q37 : (ji34) < (a0.size : Int) := of_decide_eq_true (by first | (with_reducible assumption) | assumption); have hx37 := bt_at a0 (ji34); replace p37 := eq_true p37; replace q37 := eq_true q37) | (go_at_call 65; (with_reducible refine (bellmanref19_digit.calls kj14 (bt a0 (ji34)) t131 _ A38.out).mono ?_); rintro e w' ⟨rfl, ⟨nd, rfl⟩⟩; (try first | exact ⟨rfl, _, World.drewN_drewN _ _ _⟩ | exact ⟨rfl, _, Eq.trans (World.drewN_drewN _ _ _) (congrArg (World.drewN _) (Nat.add_assoc _ _ _))⟩)) | ((with_reducible refine gate_builtin (b := .append) (xs := #[.tmp 81, .tmp 83]) rfl ?_); at_builtin; refine Kd.R_append (Kd.int .u8) (w0 := w) w.heap.size rfl (.tmp 81) (.tmp 83) 74 5 (.int .u8 0) 1 rfl Tryd.underlying74 info5 rfl (by decide) (by omega) u4 x4_1 ((wrap64 ((wrap64 (t130 * 16)) + t131)) % 256) [.int .u8 ((wrap64 ((wrap64 (t130 * 16)) + t131)) % 256)] (fun _ => True) (fun _ => False) rfl rfl ?aP (fun _ hk => hk.elim) ?aF ?aO ?aB ?aS ?aL ?_; (case aP => exact rfl); (case aB => exact (by repeat (first | (with_reducible first | exact HB.out | apply below_alloc | apply pw_below_drewN | apply below_drew1) | exact HB.out))); (case aF => exact (fun _ _ => trivial)); (case aO => exact (by (with_reducible repeat (first | apply Kd.R_alloc | apply Kd.R_drewN | apply Kd.R_drew)); exact HO_4.out)); (case aS => exact (below_size (by repeat (first | (with_reducible first | exact HB.out | apply below_alloc | apply pw_below_drewN | apply below_drew1) | exact HB.out)))); (case aL => have := LMc44.out; omega); intro v136 w45 ho hb hg hat; rw [← Ny135.out] at ho; have n0_ := Aside0.mk (hb); have n1_ := Aside0.mk (ho); clear HB; clear HO_4; have HB := n0_; have HO137 := n1_; clear n0_ n1_; clear ho hb hg hat))
                                            repeat (go_quiet (first | (go_at_call 65; (with_reducible refine (bellmanref19_digit.calls kj14 (bt a0 (ji29)) t130 _ A33.out).mono ?_); rintro e w' ⟨rfl, ⟨nd, rfl⟩⟩; (try first | exact ⟨rfl, _, World.drewN_drewN _ _ _⟩ | exact ⟨rfl, _, Eq.trans (World.drewN_drewN _ _ _) (congrArg (World.drewN _) (Nat.add_assoc _ _ _))⟩); have p37 : 0 ≤ ((ji34) : Int) := of_decide_eq_true (by first | (with_reducible assumption) | assumption); have q37 : (ji34) < (a0.size : Int) := of_decide_eq_true (by first | (with_reducible assumption) | assumption); have hx37 := bt_at a0 (ji34); replace p37 := eq_true p37; replace q37 := eq_true q37) | (go_at_call 65; (with_reducible refine (bellmanref19_digit.calls kj14 (bt a0 (ji34)) t131 _ A38.out).mono ?_); rintro e w' ⟨rfl, ⟨nd, rfl⟩⟩; (try first | exact ⟨rfl, _, World.drewN_drewN _ _ _⟩ | exact ⟨rfl, _, Eq.trans (World.drewN_drewN _ _ _) (congrArg (World.drewN _) (Nat.add_assoc _ _ _))⟩)) | ((with_reducible refine gate_builtin (b := .append) (xs := #[.tmp 81, .tmp 83]) rfl ?_); at_builtin; refine Kd.R_append (Kd.int .u8) (w0 := w) w.heap.size rfl (.tmp 81) (.tmp 83) 74 5 (.int .u8 0) 1 rfl Tryd.underlying74 info5 rfl (by decide) (by omega) u4 x4_1 ((wrap64 ((wrap64 (t130 * 16)) + t131)) % 256) [.int .u8 ((wrap64 ((wrap64 (t130 * 16)) + t131)) % 256)] (fun _ => True) (fun _ => False) rfl rfl ?aP (fun _ hk => hk.elim) ?aF ?aO ?aB ?aS ?aL ?_; (case aP => exact rfl); (case aB => exact (by repeat (first | (with_reducible first | exact HB.out | apply below_alloc | apply pw_below_drewN | apply below_drew1) | exact HB.out))); (case aF => exact (fun _ _ => trivial)); (case aO => exact (by (with_reducible repeat (first | apply Kd.R_alloc | apply Kd.R_drewN | apply Kd.R_drew)); exact HO_4.out)); (case aS => exact (below_size (by repeat (first | (with_reducible first | exact HB.out | apply below_alloc | apply pw_below_drewN | apply below_drew1) | exact HB.out)))); (case aL => have := LMc44.out; omega); intro v136 w45 ho hb hg hat; rw [← Ny135.out] at ho; have n0_ := Aside0.mk (hb); have n1_ := Aside0.mk (ho); clear HB; clear HO_4; have HB := n0_; have HO137 := n1_; clear n0_ n1_; clear ho hb hg hat)); try go_wp2_with (first | (go_at_call 65; (with_reducible refine (bellmanref19_digit.calls kj14 (bt a0 (ji29)) t130 _ A33.out).mono ?_); rintro e w' ⟨rfl, ⟨nd, rfl⟩⟩; (try first | exact ⟨rfl, _, World.drewN_drewN _ _ _⟩ | exact ⟨rfl, _, Eq.trans (World.drewN_drewN _ _ _) (congrArg (World.drewN _) (Nat.add_assoc _ _ _))⟩); have p37 : 0 ≤ ((ji34) : Int) := of_decide_eq_true (by first | (with_reducible assumption) | assumption); have q37 : (ji34) < (a0.size : Int) := of_decide_eq_true (by first | (with_reducible assumption) | assumption); have hx37 := bt_at a0 (ji34); replace p37 := eq_true p37; replace q37 := eq_true q37) | (go_at_call 65; (with_reducible refine (bellmanref19_digit.calls kj14 (bt a0 (ji34)) t131 _ A38.out).mono ?_); rintro e w' ⟨rfl, ⟨nd, rfl⟩⟩; (try first | exact ⟨rfl, _, World.drewN_drewN _ _ _⟩ | exact ⟨rfl, _, Eq.trans (World.drewN_drewN _ _ _) (congrArg (World.drewN _) (Nat.add_assoc _ _ _))⟩)) | ((with_reducible refine gate_builtin (b := .append) (xs := #[.tmp 81, .tmp 83]) rfl ?_); at_builtin; refine Kd.R_append (Kd.int .u8) (w0 := w) w.heap.size rfl (.tmp 81) (.tmp 83) 74 5 (.int .u8 0) 1 rfl Tryd.underlying74 info5 rfl (by decide) (by omega) u4 x4_1 ((wrap64 ((wrap64 (t130 * 16)) + t131)) % 256) [.int .u8 ((wrap64 ((wrap64 (t130 * 16)) + t131)) % 256)] (fun _ => True) (fun _ => False) rfl rfl ?aP (fun _ hk => hk.elim) ?aF ?aO ?aB ?aS ?aL ?_; (case aP => exact rfl); (case aB => exact (by repeat (first | (with_reducible first | exact HB.out | apply below_alloc | apply pw_below_drewN | apply below_drew1) | exact HB.out))); (case aF => exact (fun _ _ => trivial)); (case aO => exact (by (with_reducible repeat (first | apply Kd.R_alloc | apply Kd.R_drewN | apply Kd.R_drew)); exact HO_4.out)); (case aS => exact (below_size (by repeat (first | (with_reducible first | exact HB.out | apply below_alloc | apply pw_below_drewN | apply below_drew1) | exact HB.out)))); (case aL => have := LMc44.out; omega); intro v136 w45 ho hb hg hat; rw [← Ny135.out] at ho; have n0_ := Aside0.mk (hb); have n1_ := Aside0.mk (ho); clear HB; clear HO_4; have HB := n0_; have HO137 := n1_; clear n0_ n1_; clear ho hb hg hat)))
                                            go_roundg kj14
                                            case measure => have := HK1.out; have := HJ4.out; have := HJ14.out; omega
                                            case rel => exact ⟨(y135), (wrap64 ((ji34) + 1)), (by first | rfl | (simp; done) | (simp only [← hji34] <;> (first | rfl | simp)) | (simp [*]; done)), H', ⟨by have := HK1.out; have := HJ4.out; have := HJ14.out; omega⟩, ⟨by (with_reducible repeat (first | apply Kd.R_alloc | apply Kd.R_drewN | apply Kd.R_drew)); exact HO137.out⟩, ⟨by repeat (first | (with_reducible first | exact HB.out | apply below_alloc | apply pw_below_drewN | apply below_drew1) | exact HB.out)⟩⟩
                                          · rw [if_neg c44] at H
                                            exact absurd H (by simp)
                                      · rw [if_neg c39] at H
                                        have c39b0 : decide (33 ≤ ((wrap64 ((wrap64 (t130 * 16)) + t131)) % 256)) = false := decide_eq_false c39
                                        clear c39
                                        by_cases c46 : x4_1.length < 140737488355328
                                        · rw [if_pos c46] at H
                                          have LMc46 := Aside0.mk c46
                                          clear c46
                                          obtain ⟨y138, hy138⟩ : ∃ y_ : List Int, y_ = (x4_1 ++ [(wrap64 ((wrap64 (t130 * 16)) + t131)) % 256]) := ⟨_, rfl⟩
                                          replace H : (bellmanref19_Unword.l0 kj14 a0 y138 (wrap64 ((ji34) + 1))) = some (r1, r2) := by first | (rw [hy138]; with_reducible exact H) | (have H2_ := (Option.bind_some _ _).symm.trans H; rw [hy138]; with_reducible exact H2_) | (have H2_ := (Option.bind_some _ _).symm.trans H; with_reducible exact H2_) | with_reducible exact H | (rw [hy138]; exact H) | exact H
                                          have Ny138 := Aside0.mk hy138
                                          clear hy138
                                          have H' := Aside0.mk H
                                          clear H
                                          have p32 : 0 ≤ ((ji29) : Int) := of_decide_eq_true (by first | (with_reducible assumption) | assumption)
                                          have q32 : (ji29) < (a0.size : Int) := of_decide_eq_true (by first | (with_reducible assumption) | assumption)
                                          have hx32 := bt_at a0 (ji29)
                                          replace p32 := eq_true p32
                                          replace q32 := eq_true q32
                                          go_wp2_with (first | (go_at_call 65; (with_reducible refine (bellmanref19_digit.calls kj14 (bt a0 (ji29)) t130 _ A33.out).mono ?_); rintro e w' ⟨rfl, ⟨nd, rfl⟩⟩; (try first | exact ⟨rfl, _, World.drewN_drewN _ _ _⟩ | exact ⟨rfl, _, Eq.trans (World.drewN_drewN _ _ _) (congrArg (World.drewN _) (Nat.add_assoc _ _ _))⟩); have p37 : 0 ≤ ((ji34) : Int) := of_decide_eq_true (by first | (with_reducible assumption) | assumption); have q37 : (ji34) < (a0.size : Int) := of_decide_eq_true (by first | (with_reducible assumption) | assumption); have hx37 := bt_at a0 (ji34); replace p37 := eq_true p37; replace q37 := eq_true q37) | (go_at_call 65; (with_reducible refine (bellmanref19_digit.calls kj14 (bt a0 (ji34)) t131 _ A38.out).mono ?_); rintro e w' ⟨rfl, ⟨nd, rfl⟩⟩; (try first | exact ⟨rfl, _, World.drewN_drewN _ _ _⟩ | exact ⟨rfl, _, Eq.trans (World.drewN_drewN _ _ _) (congrArg (World.drewN _) (Nat.add_assoc _ _ _))⟩)) | ((with_reducible refine gate_builtin (b := .append) (xs := #[.tmp 81, .tmp 83]) rfl ?_); at_builtin; refine Kd.R_append (Kd.int .u8) (w0 := w) w.heap.size rfl (.tmp 81) (.tmp 83) 74 5 (.int .u8 0) 1 rfl Tryd.underlying74 info5 rfl (by decide) (by omega) u4 x4_1 ((wrap64 ((wrap64 (t130 * 16)) + t131)) % 256) [.int .u8 ((wrap64 ((wrap64 (t130 * 16)) + t131)) % 256)] (fun _ => True) (fun _ => False) rfl rfl ?aP (fun _ hk => hk.elim) ?aF ?aO ?aB ?aS ?aL ?_; (case aP => exact rfl); (case aB => exact (by repeat (first | (with_reducible first | exact HB.out | apply below_alloc | apply pw_below_drewN | apply below_drew1) | exact HB.out))); (case aF => exact (fun _ _ => trivial)); (case aO => exact (by (with_reducible repeat (first | apply Kd.R_alloc | apply Kd.R_drewN | apply Kd.R_drew)); exact HO_4.out)); (case aS => exact (below_size (by repeat (first | (with_reducible first | exact HB.out | apply below_alloc | apply pw_below_drewN | apply below_drew1) | exact HB.out)))); (case aL => have := LMc46.out; omega); intro v139 w47 ho hb hg hat; rw [← Ny138.out] at ho; have n0_ := Aside0.mk (hb); have n1_ := Aside0.mk (ho); clear HB; clear HO_4; have HB := n0_; have HO140 := n1_; clear n0_ n1_; clear ho hb hg hat))
                                          repeat (go_quiet (first | (go_at_call 65; (with_reducible refine (bellmanref19_digit.calls kj14 (bt a0 (ji29)) t130 _ A33.out).mono ?_); rintro e w' ⟨rfl, ⟨nd, rfl⟩⟩; (try first | exact ⟨rfl, _, World.drewN_drewN _ _ _⟩ | exact ⟨rfl, _, Eq.trans (World.drewN_drewN _ _ _) (congrArg (World.drewN _) (Nat.add_assoc _ _ _))⟩); have p37 : 0 ≤ ((ji34) : Int) := of_decide_eq_true (by first | (with_reducible assumption) | assumption); have q37 : (ji34) < (a0.size : Int) := of_decide_eq_true (by first | (with_reducible assumption) | assumption); have hx37 := bt_at a0 (ji34); replace p37 := eq_true p37; replace q37 := eq_true q37) | (go_at_call 65; (with_reducible refine (bellmanref19_digit.calls kj14 (bt a0 (ji34)) t131 _ A38.out).mono ?_); rintro e w' ⟨rfl, ⟨nd, rfl⟩⟩; (try first | exact ⟨rfl, _, World.drewN_drewN _ _ _⟩ | exact ⟨rfl, _, Eq.trans (World.drewN_drewN _ _ _) (congrArg (World.drewN _) (Nat.add_assoc _ _ _))⟩)) | ((with_reducible refine gate_builtin (b := .append) (xs := #[.tmp 81, .tmp 83]) rfl ?_); at_builtin; refine Kd.R_append (Kd.int .u8) (w0 := w) w.heap.size rfl (.tmp 81) (.tmp 83) 74 5 (.int .u8 0) 1 rfl Tryd.underlying74 info5 rfl (by decide) (by omega) u4 x4_1 ((wrap64 ((wrap64 (t130 * 16)) + t131)) % 256) [.int .u8 ((wrap64 ((wrap64 (t130 * 16)) + t131)) % 256)] (fun _ => True) (fun _ => False) rfl rfl ?aP (fun _ hk => hk.elim) ?aF ?aO ?aB ?aS ?aL ?_; (case aP => exact rfl); (case aB => exact (by repeat (first | (with_reducible first | exact HB.out | apply below_alloc | apply pw_below_drewN | apply below_drew1) | exact HB.out))); (case aF => exact (fun _ _ => trivial)); (case aO => exact (by (with_reducible repeat (first | apply Kd.R_alloc | apply Kd.R_drewN | apply Kd.R_drew)); exact HO_4.out)); (case aS => exact (below_size (by repeat (first | (with_reducible first | exact HB.out | apply below_alloc | apply pw_below_drewN | apply below_drew1) | exact HB.out)))); (case aL => have := LMc46.out; omega); intro v139 w47 ho hb hg hat; rw [← Ny138.out] at ho; have n0_ := Aside0.mk (hb); have n1_ := Aside0.mk (ho); clear HB; clear HO_4; have HB := n0_; have HO140 := n1_; clear n0_ n1_; clear ho hb hg hat)); try go_wp2_with (first | (go_at_call 65; (with_reducible refine (bellmanref19_digit.calls kj14 (bt a0 (ji29)) t130 _ A33.out).mono ?_); rintro e w' ⟨rfl, ⟨nd, rfl⟩⟩; (try first | exact ⟨rfl, _, World.drewN_drewN _ _ _⟩ | exact ⟨rfl, _, Eq.trans (World.drewN_drewN _ _ _) (congrArg (World.drewN _) (Nat.add_assoc _ _ _))⟩); have p37 : 0 ≤ ((ji34) : Int) := of_decide_eq_true (by first | (with_reducible assumption) | assumption); have q37 : (ji34) < (a0.size : Int) := of_decide_eq_true (by first | (with_reducible assumption) | assumption); have hx37 := bt_at a0 (ji34); replace p37 := eq_true p37; replace q37 := eq_true q37) | (go_at_call 65; (with_reducible refine (bellmanref19_digit.calls kj14 (bt a0 (ji34)) t131 _ A38.out).mono ?_); rintro e w' ⟨rfl, ⟨nd, rfl⟩⟩; (try first | exact ⟨rfl, _, World.drewN_drewN _ _ _⟩ | exact ⟨rfl, _, Eq.trans (World.drewN_drewN _ _ _) (congrArg (World.drewN _) (Nat.add_assoc _ _ _))⟩)) | ((with_reducible refine gate_builtin (b := .append) (xs := #[.tmp 81, .tmp 83]) rfl ?_); at_builtin; refine Kd.R_append (Kd.int .u8) (w0 := w) w.heap.size rfl (.tmp 81) (.tmp 83) 74 5 (.int .u8 0) 1 rfl Tryd.underlying74 info5 rfl (by decide) (by omega) u4 x4_1 ((wrap64 ((wrap64 (t130 * 16)) + t131)) % 256) [.int .u8 ((wrap64 ((wrap64 (t130 * 16)) + t131)) % 256)] (fun _ => True) (fun _ => False) rfl rfl ?aP (fun _ hk => hk.elim) ?aF ?aO ?aB ?aS ?aL ?_; (case aP => exact rfl); (case aB => exact (by repeat (first | (with_reducible first | exact HB.out | apply below_alloc | apply pw_below_drewN | apply below_drew1) | exact HB.out))); (case aF => exact (fun _ _ => trivial)); (case aO => exact (by (with_reducible repeat (first | apply Kd.R_alloc | apply Kd.R_drewN | apply Kd.R_drew)); exact HO_4.out)); (case aS => exact (below_size (by repeat (first | (with_reducible first | exact HB.out | apply below_alloc | apply pw_below_drewN | apply below_drew1) | exact HB.out)))); (case aL => have := LMc46.out; omega); intro v139 w47 ho hb hg hat; rw [← Ny138.out] at ho; have n0_ := Aside0.mk (hb); have n1_ := Aside0.mk (ho); clear HB; clear HO_4; have HB := n0_; have HO140 := n1_; clear n0_ n1_; clear ho hb hg hat)))
                                          go_roundg kj14
                                          case measure => have := HK1.out; have := HJ4.out; have := HJ14.out; omega
                                          case rel => exact ⟨(y138), (wrap64 ((ji34) + 1)), (by first | rfl | (simp; done) | (simp only [← hji34] <;> (first | rfl | simp)) | (simp [*]; done)), H', ⟨by have := HK1.out; have := HJ4.out; have := HJ14.out; omega⟩, ⟨by (with_reducible repeat (first | apply Kd.R_alloc | apply Kd.R_drewN | apply Kd.R_drew)); exact HO140.out⟩, ⟨by repeat (first | (with_reducible first | exact HB.out | apply below_alloc | apply pw_below_drewN | apply below_drew1) | exact HB.out)⟩⟩
                                        · rw [if_neg c46] at H
                                          exact absurd H (by simp)
                                    · rw [if_neg c36] at H
                                      exact absurd H (by simp)
                                  · rw [if_neg c35] at H
                                    exact absurd H (by simp)
                                · rw [if_neg c31] at H
                                  exact absurd H (by simp)
                              · rw [if_neg c30] at H
                                exact absurd H (by simp)
                      · rw [if_neg c14] at H
                        have c14b0 : ((bt a0 x5_1) == 37) = false := beq_eq_false_iff_ne.mpr c14
                        have c14b1 : ((bt a0 x5_1) != 37) = true := bne_iff_ne.mpr c14
                        by_cases c49 : x4_1.length < 140737488355328
                        · rw [if_pos c49] at H
                          have LMc49 := Aside0.mk c49
                          clear c49
                          obtain ⟨y125, hy125⟩ : ∃ y_ : List Int, y_ = (x4_1 ++ [bt a0 x5_1]) := ⟨_, rfl⟩
                          replace H : (bellmanref19_Unword.l0 kj4 a0 y125 (wrap64 (x5_1 + 1))) = some (r1, r2) := by first | (rw [hy125]; with_reducible exact H) | (have H2_ := (Option.bind_some _ _).symm.trans H; rw [hy125]; with_reducible exact H2_) | (have H2_ := (Option.bind_some _ _).symm.trans H; with_reducible exact H2_) | with_reducible exact H | (rw [hy125]; exact H) | exact H
                          have Ny125 := Aside0.mk hy125
                          clear hy125
                          have H' := Aside0.mk H
                          clear H
                          have p13 : 0 ≤ (x5_1 : Int) := of_decide_eq_true (by first | (with_reducible assumption) | assumption)
                          have q13 : x5_1 < (a0.size : Int) := of_decide_eq_true (by first | (with_reducible assumption) | assumption)
                          have hx13 := bt_at a0 x5_1
                          replace p13 := eq_true p13
                          replace q13 := eq_true q13
                          have p48 : 0 ≤ (x5_1 : Int) := of_decide_eq_true (by first | (with_reducible assumption) | assumption)
                          have q48 : x5_1 < (a0.size : Int) := of_decide_eq_true (by first | (with_reducible assumption) | assumption)
                          have hx48 := bt_at a0 x5_1
                          replace p48 := eq_true p48
                          replace q48 := eq_true q48
                          go_wp2_with (first | ((with_reducible refine gate_builtin (b := .append) (xs := #[.tmp 31, .tmp 35]) rfl ?_); at_builtin; refine Kd.R_append (Kd.int .u8) (w0 := w) w.heap.size rfl (.tmp 31) (.tmp 35) 74 5 (.int .u8 0) 1 rfl Tryd.underlying74 info5 rfl (by decide) (by omega) u4 x4_1 (bt a0 x5_1) [.int .u8 (bt a0 x5_1)] (fun _ => True) (fun _ => False) rfl rfl ?aP (fun _ hk => hk.elim) ?aF ?aO ?aB ?aS ?aL ?_; (case aP => exact rfl); (case aB => exact (by repeat (first | (with_reducible first | exact HB.out | apply below_alloc | apply pw_below_drewN | apply below_drew1) | exact HB.out))); (case aF => exact (fun _ _ => trivial)); (case aO => exact (by (with_reducible repeat (first | apply Kd.R_alloc | apply Kd.R_drewN | apply Kd.R_drew)); exact HO_4.out)); (case aS => exact (below_size (by repeat (first | (with_reducible first | exact HB.out | apply below_alloc | apply pw_below_drewN | apply below_drew1) | exact HB.out)))); (case aL => have := LMc49.out; omega); intro v126 w50 ho hb hg hat; rw [← Ny125.out] at ho; have n0_ := Aside0.mk (hb); have n1_ := Aside0.mk (ho); clear HB; clear HO_4; have HB := n0_; have HO127 := n1_; clear n0_ n1_; clear ho hb hg hat))
                          repeat (go_quiet (first | ((with_reducible refine gate_builtin (b := .append) (xs := #[.tmp 31, .tmp 35]) rfl ?_); at_builtin; refine Kd.R_append (Kd.int .u8) (w0 := w) w.heap.size rfl (.tmp 31) (.tmp 35) 74 5 (.int .u8 0) 1 rfl Tryd.underlying74 info5 rfl (by decide) (by omega) u4 x4_1 (bt a0 x5_1) [.int .u8 (bt a0 x5_1)] (fun _ => True) (fun _ => False) rfl rfl ?aP (fun _ hk => hk.elim) ?aF ?aO ?aB ?aS ?aL ?_; (case aP => exact rfl); (case aB => exact (by repeat (first | (with_reducible first | exact HB.out | apply below_alloc | apply pw_below_drewN | apply below_drew1) | exact HB.out))); (case aF => exact (fun _ _ => trivial)); (case aO => exact (by (with_reducible repeat (first | apply Kd.R_alloc | apply Kd.R_drewN | apply Kd.R_drew)); exact HO_4.out)); (case aS => exact (below_size (by repeat (first | (with_reducible first | exact HB.out | apply below_alloc | apply pw_below_drewN | apply below_drew1) | exact HB.out)))); (case aL => have := LMc49.out; omega); intro v126 w50 ho hb hg hat; rw [← Ny125.out] at ho; have n0_ := Aside0.mk (hb); have n1_ := Aside0.mk (ho); clear HB; clear HO_4; have HB := n0_; have HO127 := n1_; clear n0_ n1_; clear ho hb hg hat)); try go_wp2_with (first | ((with_reducible refine gate_builtin (b := .append) (xs := #[.tmp 31, .tmp 35]) rfl ?_); at_builtin; refine Kd.R_append (Kd.int .u8) (w0 := w) w.heap.size rfl (.tmp 31) (.tmp 35) 74 5 (.int .u8 0) 1 rfl Tryd.underlying74 info5 rfl (by decide) (by omega) u4 x4_1 (bt a0 x5_1) [.int .u8 (bt a0 x5_1)] (fun _ => True) (fun _ => False) rfl rfl ?aP (fun _ hk => hk.elim) ?aF ?aO ?aB ?aS ?aL ?_; (case aP => exact rfl); (case aB => exact (by repeat (first | (with_reducible first | exact HB.out | apply below_alloc | apply pw_below_drewN | apply below_drew1) | exact HB.out))); (case aF => exact (fun _ _ => trivial)); (case aO => exact (by (with_reducible repeat (first | apply Kd.R_alloc | apply Kd.R_drewN | apply Kd.R_drew)); exact HO_4.out)); (case aS => exact (below_size (by repeat (first | (with_reducible first | exact HB.out | apply below_alloc | apply pw_below_drewN | apply below_drew1) | exact HB.out)))); (case aL => have := LMc49.out; omega); intro v126 w50 ho hb hg hat; rw [← Ny125.out] at ho; have n0_ := Aside0.mk (hb); have n1_ := Aside0.mk (ho); clear HB; clear HO_4; have HB := n0_; have HO127 := n1_; clear n0_ n1_; clear ho hb hg hat)))
                          go_roundg kj4
                          case measure => have := HK1.out; have := HJ4.out; omega
                          case rel => exact ⟨(y125), (wrap64 (x5_1 + 1)), (by first | rfl | (simp; done) | (simp [*]; done)), H', ⟨by have := HK1.out; have := HJ4.out; omega⟩, ⟨by (with_reducible repeat (first | apply Kd.R_alloc | apply Kd.R_drewN | apply Kd.R_drew)); exact HO127.out⟩, ⟨by repeat (first | (with_reducible first | exact HB.out | apply below_alloc | apply pw_below_drewN | apply below_drew1) | exact HB.out)⟩⟩
                        · rw [if_neg c49] at H
                          exact absurd H (by simp)
                    · rw [if_neg c12] at H
                      exact absurd H (by simp)
                  · rw [if_neg c11] at H
                    exact absurd H (by simp)
          · rw [if_neg c4] at H
            have c4b0 : decide (x5_1 < (a0.size : Int)) = false := decide_eq_false c4
            clear c4
            simp only [Option.some.injEq, Prod.mk.injEq] at H
            obtain ⟨rfl, rfl⟩ := H
            have hcv51 := own_string (P := Tryd.prog) Tryd.underlying74 Tryd.underlying5 Tryd.underlying9 (Kd.own_of_R HO_4.out)
            go_wp2
            repeat (go_quiet (fail); try go_wp2)
            go_ret2
            exact ⟨by first | rfl | (simp [errW_none, errW_some] <;> rfl) | (simp [*, errW_none, errW_some] <;> rfl), by repeat (first | (with_reducible first | exact HB.out | apply below_alloc | apply pw_below_drewN | apply below_drew1) | exact HB.out)⟩

end Go.Proofs.YtodiohoiekkodaaDoor.Rf
end

section
-- PRINTED by print.py (a twelfth state) out of the translation. Not trusted: Lean checks it.
namespace Go.Proofs.YtodiohoiekkodaaDoor.Rf
open Go.RowKit Go.Proofs.YtodiohoiekkodaaDoorW.PrintWords Go.Proofs.YtodiohoiekkodaaDoorW.PrintLast Go.Proofs.YtodiohoiekkodaaDoorW.PrintMore
attribute [local go_sem] max2_int min2_int max_two min_two max_three min_three max_four min_four   -- for this text's walks alone
set_option linter.unusedVariables false
set_option linter.unusedSimpArgs false

/-! ### bellmanref19_Num: function 42 -/
mutual
def bellmanref19_Num.j0 : Nat → ByteArray → Bool → Option (Int)
  | 0, _, _ => none
  | k + 1, x0, x22 => if x22 = true then (some (-1)) else (bellmanref19_Num.l0 k x0 0 0)
def bellmanref19_Num.l0 : Nat → ByteArray → Int → Int → Option (Int)
  | 0, _, _, _ => none
  | k + 1, x0, x3, x4 => if x4 < (x0.size : Int) then (if 0 ≤ x4 then (if (bt x0 x4) < 48 then (some (-1)) else (if (bt x0 x4) > 57 then (some (-1)) else (bellmanref19_Num.l0 k x0 (wrap64 ((wrap64 ((wrap64 (x3 * 10)) + (wrap64 (bt x0 x4)))) - 48)) (wrap64 (x4 + 1))))) else (none)) else (some x3)
end
def bellmanref19_Num.f (k : Nat) (a0 : ByteArray) : Option (Int) := if (a0.size : Int) < 1 then (bellmanref19_Num.j0 k a0 true) else (if (a0.size : Int) > 4 then (bellmanref19_Num.j0 k a0 true) else (if (a0.size : Int) > 1 then (if 0 < (a0.size : Int) then (bellmanref19_Num.j0 k a0 ((bt a0 0) == 48)) else (none)) else (bellmanref19_Num.j0 k a0 false)))
theorem bellmanref19_Num.mono_l : ∀ k, (∀ y0 y1, LeO (bellmanref19_Num.j0 k y0 y1) (bellmanref19_Num.j0 (k + 1) y0 y1)) ∧ (∀ y0 y1 y2, LeO (bellmanref19_Num.l0 k y0 y1 y2) (bellmanref19_Num.l0 (k + 1) y0 y1 y2))
  | 0 => ⟨fun _ _ r h => by simp [bellmanref19_Num.j0] at h, fun _ _ _ r h => by simp [bellmanref19_Num.l0] at h⟩
  | k + 1 => by
    obtain ⟨ih0, ih1⟩ := bellmanref19_Num.mono_l k
    refine ⟨?_, ?_⟩
    · intro y0 y1
      unfold bellmanref19_Num.j0
      repeat' first
      | (with_reducible exact ih0 _ _)
      | (with_reducible exact ih1 _ _ _)
      | (with_reducible exact LeO.refl _)
      | (with_reducible exact LeO.none _)
      | (with_reducible refine LeO.ite ?_ ?_)
      | (with_reducible refine LeO.bind ?_ (fun _ => ?_))
      | exact ih0 _ _
      | exact ih1 _ _ _
      | exact LeO.none _
      | refine LeO.ite ?_ ?_
      | refine LeO.bind ?_ (fun _ => ?_)
    · intro y0 y1 y2
      unfold bellmanref19_Num.l0
      repeat' first
      | (with_reducible exact ih0 _ _)
      | (with_reducible exact ih1 _ _ _)
      | (with_reducible exact LeO.refl _)
      | (with_reducible exact LeO.none _)
      | (with_reducible refine LeO.ite ?_ ?_)
      | (with_reducible refine LeO.bind ?_ (fun _ => ?_))
      | exact ih0 _ _
      | exact ih1 _ _ _
      | exact LeO.none _
      | refine LeO.ite ?_ ?_
      | refine LeO.bind ?_ (fun _ => ?_)
theorem bellmanref19_Num.mono : ∀ a0 k, LeO (bellmanref19_Num.f k a0) (bellmanref19_Num.f (k + 1) a0) := by
  intro a0 k
  obtain ⟨ih0, ih1⟩ := bellmanref19_Num.mono_l k
  unfold bellmanref19_Num.f
  repeat' first
      | (with_reducible exact ih0 _ _)
      | (with_reducible exact ih1 _ _ _)
      | (with_reducible exact LeO.refl _)
      | (with_reducible exact LeO.none _)
      | (with_reducible refine LeO.ite ?_ ?_)
      | (with_reducible refine LeO.bind ?_ (fun _ => ?_))
      | exact ih0 _ _
      | exact ih1 _ _ _
      | exact LeO.none _
      | refine LeO.ite ?_ ?_
      | refine LeO.bind ?_ (fun _ => ?_)
set_option maxHeartbeats 8000000 in
set_option maxRecDepth 100000 in
theorem bellmanref19_Num.calls (k : Nat) (a0 : ByteArray) (r : Int) (w : World) (h : bellmanref19_Num.f k a0 = some r) :
    Calls Tryd.prog 42 #[.string a0] w fun e w' => e = .returned (.int .i64 r) ∧ Drawn0 w w' := by
  have H : (if (a0.size : Int) < 1 then (bellmanref19_Num.j0 k a0 true) else (if (a0.size : Int) > 4 then (bellmanref19_Num.j0 k a0 true) else (if (a0.size : Int) > 1 then (if 0 < (a0.size : Int) then (bellmanref19_Num.j0 k a0 ((bt a0 0) == 48)) else (none)) else (bellmanref19_Num.j0 k a0 false)))) = some r := h
  clear h
  have HC2 := Aside0.mk H
  clear H
  go_enter Tryd.func42, Tryd.ntmps42
  go_upto_region 1 with (fail)
  go_cut [22] (fun v22 wc => ∃ (kq : Nat) (x22_1 : Bool), v22 = .bool x22_1 ∧ Aside0 (bellmanref19_Num.j0 kq a0 x22_1 = some r) ∧ Aside0 (kq ≤ k) ∧ Drawn0 w wc)
  case first =>
    have H := HC2.out
    clear HC2
    by_cases c3 : (a0.size : Int) < 1
    · rw [if_pos c3] at H
      have c3b0 : decide ((a0.size : Int) < 1) = true := decide_eq_true c3
      have c3b1 : decide (a0.size < 1) = true := decide_eq_true (by omega)
      clear c3
      (first | rw [c3b0] | (simp only [i64_w, i32_w]; rw [c3b0]) | skip)
      have H' := Aside0.mk H
      clear H
      go_wp2
      go_meet
      case rel => exact ⟨_, (true), (by first | rfl | (simp; done) | (simp [*]; done)), H', ⟨by first | omega | exact Nat.le_refl _⟩, by repeat (first | exact Drawn0.refl _ | apply Drawn0.step)⟩
    · rw [if_neg c3] at H
      have c3b0 : decide ((a0.size : Int) < 1) = false := decide_eq_false c3
      have c3b1 : decide (a0.size < 1) = false := decide_eq_false (by omega)
      clear c3
      (first | rw [c3b0] | (simp only [i64_w, i32_w]; rw [c3b0]) | skip)
      by_cases c4 : (a0.size : Int) > 4
      · rw [if_pos c4] at H
        have c4b0 : decide (4 < (a0.size : Int)) = true := decide_eq_true c4
        have c4b1 : decide (4 < a0.size) = true := decide_eq_true (by omega)
        clear c4
        have H' := Aside0.mk H
        clear H
        go_wp2
        go_meet
        case rel => exact ⟨_, (true), (by first | rfl | (simp; done) | (simp [*]; done)), H', ⟨by first | omega | exact Nat.le_refl _⟩, by repeat (first | exact Drawn0.refl _ | apply Drawn0.step)⟩
      · rw [if_neg c4] at H
        have c4b0 : decide (4 < (a0.size : Int)) = false := decide_eq_false c4
        have c4b1 : decide (4 < a0.size) = false := decide_eq_false (by omega)
        clear c4
        by_cases c5 : (a0.size : Int) > 1
        · rw [if_pos c5] at H
          have c5b0 : decide (1 < (a0.size : Int)) = true := decide_eq_true c5
          have c5b1 : decide (1 < a0.size) = true := decide_eq_true (by omega)
          clear c5
          by_cases c6 : 0 < (a0.size : Int)
          · rw [if_pos c6] at H
            have c6b0 : decide (0 < (a0.size : Int)) = true := decide_eq_true c6
            have c6b1 : decide (0 < a0.size) = true := decide_eq_true (by omega)
            clear c6
            have H' := Aside0.mk H
            clear H
            have p7 : 0 ≤ (0 : Int) := (by omega)
            have q7 : 0 < a0.size := (by have : (0 : Int) < (a0.size : Int) := of_decide_eq_true (by first | (with_reducible assumption) | assumption); omega)
            have hx7 : ∀ h : 0 < a0.size, ((a0[0]'h).toNat : Int) = bt a0 0 := bt_at a0 0
            clear p7
            have qi7 : (0 < (a0.size : Int)) = True := eq_true (of_decide_eq_true (by first | (with_reducible assumption) | assumption))
            replace q7 := eq_true q7
            go_wp2
            go_meet
            case rel => exact ⟨_, (((bt a0 0) == 48)), (by first | rfl | (simp; done) | (simp [*]; done)), H', ⟨by first | omega | exact Nat.le_refl _⟩, by repeat (first | exact Drawn0.refl _ | apply Drawn0.step)⟩
          · rw [if_neg c6] at H
            exact absurd H (by simp)
        · rw [if_neg c5] at H
          have c5b0 : decide (1 < (a0.size : Int)) = false := decide_eq_false c5
          have c5b1 : decide (1 < a0.size) = false := decide_eq_false (by omega)
          clear c5
          have H' := Aside0.mk H
          clear H
          go_wp2
          go_meet
          case rel => exact ⟨_, (false), (by first | rfl | (simp; done) | (simp [*]; done)), H', ⟨by first | omega | exact Nat.le_refl _⟩, by repeat (first | exact Drawn0.refl _ | apply Drawn0.step)⟩
  case rest =>
    clear HC2
    try clear p2
    try clear c3
    try clear c3b0
    try clear c3b1
    try clear c4
    try clear c4b0
    try clear c4b1
    try clear c5
    try clear c5b0
    try clear c5b1
    try clear c6
    try clear c6b0
    try clear c6b1
    try clear p7
    try clear q7
    try clear hx7
    try clear qi7
    try clear p7
    try clear q7
    obtain ⟨kq, x22_1, rfl, HA, HJ1, ⟨mc1, rfl⟩⟩ := hcut
    cases kq with
    | zero => exact absurd HA.out (by simp [bellmanref19_Num.j0])
    | succ kj1 =>
      have H := HA.out
      clear HA
      simp only [bellmanref19_Num.j0] at H
      by_cases c8 : x22_1 = true
      · subst c8
        have H1 : (some (-1)) = some r := by rw [if_pos rfl] at H; exact H
        clear H
        have H := H1
        clear H1
        obtain rfl := Option.some.inj H
        go_wp2
        go_ret
        exact ⟨by first | rfl | (simp; done) | (simp [*]; done), by repeat (first | exact Drawn0.refl _ | apply Drawn0.step)⟩
      · replace c8 := Bool.eq_false_iff.mpr c8
        subst c8
        have H1 : (bellmanref19_Num.l0 kj1 a0 0 0) = some r := by rw [if_neg (show ¬ (false = true) by decide)] at H; exact H
        clear H
        have H := H1
        clear H1
        have H' := Aside0.mk H
        clear H
        go_wp2
        go_loopg [3, 4] kj1 (fun kq v3 v4 w' => ∃ (x3_2 : Int) (x4_2 : Int), v3 = .int .i64 x3_2 ∧ v4 = .int .i64 x4_2 ∧ Aside0 (bellmanref19_Num.l0 kq a0 x3_2 x4_2 = some r) ∧ Aside0 (kq ≤ kj1) ∧ Drawn0 w w')
        case atStart => exact ⟨(0), (0), (by first | rfl | (simp; done) | (simp [*]; done)), (by first | rfl | (simp; done) | (simp [*]; done)), H', ⟨Nat.le_refl _⟩, by repeat (first | exact Drawn0.refl _ | apply Drawn0.step)⟩
        case round =>
          clear H'
          try clear c1
          try clear p2
          try clear c3
          try clear c3b0
          try clear c3b1
          try clear c4
          try clear c4b0
          try clear c4b1
          try clear c5
          try clear c5b0
          try clear c5b1
          try clear c6
          try clear c6b0
          try clear c6b1
          try clear p7
          try clear q7
          try clear hx7
          try clear qi7
          try clear c8
          try clear p2
          try clear p7
          try clear q7
          obtain ⟨x3_2, x4_2, rfl, rfl, HA, HK2, ⟨m2, rfl⟩⟩ := hrel
          cases gk with
          | zero => exact absurd HA.out (by simp [bellmanref19_Num.l0])
          | succ k2 =>
            have H := HA.out
            clear HA
            simp only [bellmanref19_Num.l0] at H
            by_cases c9 : x4_2 < (a0.size : Int)
            · rw [if_pos c9] at H
              have c9b0 : decide (x4_2 < (a0.size : Int)) = true := decide_eq_true c9
              clear c9
              by_cases c10 : 0 ≤ x4_2
              · rw [if_pos c10] at H
                have c10b0 : decide (0 ≤ x4_2) = true := decide_eq_true c10
                clear c10
                by_cases c12 : (bt a0 x4_2) < 48
                · rw [if_pos c12] at H
                  have c12b0 : decide ((bt a0 x4_2) < 48) = true := decide_eq_true c12
                  clear c12
                  obtain rfl := Option.some.inj H
                  have p11 : 0 ≤ (x4_2 : Int) := of_decide_eq_true (by first | (with_reducible assumption) | assumption)
                  have q11 : x4_2 < (a0.size : Int) := of_decide_eq_true (by first | (with_reducible assumption) | assumption)
                  have hx11 := bt_at a0 x4_2
                  replace p11 := eq_true p11
                  replace q11 := eq_true q11
                  go_wp2
                  go_ret
                  exact ⟨by first | rfl | (simp; done) | (simp [*]; done), by repeat (first | exact Drawn0.refl _ | apply Drawn0.step)⟩
                · rw [if_neg c12] at H
                  have c12b0 : decide ((bt a0 x4_2) < 48) = false := decide_eq_false c12
                  clear c12
                  by_cases c14 : (bt a0 x4_2) > 57
                  · rw [if_pos c14] at H
                    have c14b0 : decide (57 < (bt a0 x4_2)) = true := decide_eq_true c14
                    clear c14
                    obtain rfl := Option.some.inj H
                    have p11 : 0 ≤ (x4_2 : Int) := of_decide_eq_true (by first | (with_reducible assumption) | assumption)
                    have q11 : x4_2 < (a0.size : Int) := of_decide_eq_true (by first | (with_reducible assumption) | assumption)
                    have hx11 := bt_at a0 x4_2
                    replace p11 := eq_true p11
                    replace q11 := eq_true q11
                    have p13 : 0 ≤ (x4_2 : Int) := of_decide_eq_true (by first | (with_reducible assumption) | assumption)
                    have q13 : x4_2 < (a0.size : Int) := of_decide_eq_true (by first | (with_reducible assumption) | assumption)
                    have hx13 := bt_at a0 x4_2
                    replace p13 := eq_true p13
                    replace q13 := eq_true q13
                    go_wp2
                    go_ret
                    exact ⟨by first | rfl | (simp; done) | (simp [*]; done), by repeat (first | exact Drawn0.refl _ | apply Drawn0.step)⟩
                  · rw [if_neg c14] at H
                    have c14b0 : decide (57 < (bt a0 x4_2)) = false := decide_eq_false c14
                    clear c14
                    have H' := Aside0.mk H
                    clear H
                    have p11 : 0 ≤ (x4_2 : Int) := of_decide_eq_true (by first | (with_reducible assumption) | assumption)
                    have q11 : x4_2 < (a0.size : Int) := of_decide_eq_true (by first | (with_reducible assumption) | assumption)
                    have hx11 := bt_at a0 x4_2
                    replace p11 := eq_true p11
                    replace q11 := eq_true q11
                    have p13 : 0 ≤ (x4_2 : Int) := of_decide_eq_true (by first | (with_reducible assumption) | assumption)
                    have q13 : x4_2 < (a0.size : Int) := of_decide_eq_true (by first | (with_reducible assumption) | assumption)
                    have hx13 := bt_at a0 x4_2
                    replace p13 := eq_true p13
                    replace q13 := eq_true q13
                    have p15 : 0 ≤ (x4_2 : Int) := of_decide_eq_true (by first | (with_reducible assumption) | assumption)
                    have q15 : x4_2 < (a0.size : Int) := of_decide_eq_true (by first | (with_reducible assumption) | assumption)
                    have hx15 := bt_at a0 x4_2
                    replace p15 := eq_true p15
                    replace q15 := eq_true q15
                    go_wp2
                    go_roundg k2
                    case measure => have := HJ1.out; have := HK2.out; omega
                    case rel => exact ⟨(wrap64 ((wrap64 ((wrap64 (x3_2 * 10)) + (wrap64 (bt a0 x4_2)))) - 48)), (wrap64 (x4_2 + 1)), (by first | rfl | (simp; done) | (simp [*]; done)), (by first | rfl | (simp; done) | (simp [*]; done)), H', ⟨by have := HJ1.out; have := HK2.out; omega⟩, by repeat (first | exact Drawn0.refl _ | apply Drawn0.step)⟩
              · rw [if_neg c10] at H
                exact absurd H (by simp)
            · rw [if_neg c9] at H
              have c9b0 : decide (x4_2 < (a0.size : Int)) = false := decide_eq_false c9
              clear c9
              obtain rfl := Option.some.inj H
              go_wp2
              go_ret
              exact ⟨by first | rfl | (simp; done) | (simp [*]; done), by repeat (first | exact Drawn0.refl _ | apply Drawn0.step)⟩

end Go.Proofs.YtodiohoiekkodaaDoor.Rf
end

section
set_option linter.unusedVariables false
namespace Go.Proofs.YtodiohoiekkodaaDoor.Op
open Go.RowKit Go.Proofs.YtodiohoiekkodaaDoor.Bd Go.Proofs.YtodiohoiekkodaaDoor.Sp Go.Proofs.YtodiohoiekkodaaDoor.Rf Go.Proofs.YtodiohoiekkodaaDoorW.PrintWords

theorem ba_data (s : ByteArray) : ba s.data.toList = s := by cases s; rfl
theorem data_ba (l : Bs) : (ba l).data.toList = l := rfl
theorem words_eq (s : ByteArray) : words s = (spC 32 s.data.toList).map ba := by
  rw [← words_data, List.map_map]
  conv => lhs; rw [← List.map_id (words s)]
  apply List.map_congr_left
  intro x _
  exact (ba_data x).symm

theorem spC_clean (c : UInt8) : ∀ (a : Bs), (∀ x ∈ a, x ≠ c) → spC c a = [a]
  | [], _ => rfl
  | x :: a, h => by rw [spC, if_neg (h x (by simp)), spC_clean c a (fun y hy => h y (by simp [hy]))]
theorem spC_cut (c : UInt8) (r : Bs) : ∀ (a : Bs), (∀ x ∈ a, x ≠ c) → spC c (a ++ c :: r) = a :: spC c r
  | [], _ => by rw [List.nil_append, spC, if_pos rfl]
  | x :: a, h => by rw [List.cons_append, spC, if_neg (h x (by simp)), spC_cut c r a (fun y hy => h y (by simp [hy]))]

theorem extract_ba (s : ByteArray) (a b : Nat) : s.extract a b = ba ((s.data.toList.take b).drop a) := by
  apply ByteArray.ext
  rw [ByteArray.data_extract]
  apply Array.ext'
  simp [List.drop_take, List.extract]

theorem rsplit_l0 (s : ByteArray) (hs : s.size ≤ 1000000) : ∀ (n i f k : Nat) (x : List ByteArray), s.size - i = n → f ≤ i → i ≤ s.size → n + 1 ≤ k → x.length ≤ i → (∀ c ∈ (s.data.toList.take i).drop f, c ≠ 32) →
    bellmanref19_Split.l0 k s x (f : Int) (i : Int) = some (x ++ (spC 32 (s.data.toList.drop f)).map ba) := by
  intro n
  induction n with
  | zero =>
    intro i f k x hn hf hi hk hx hc
    obtain ⟨k, rfl⟩ : ∃ k', k = k' + 1 := ⟨k - 1, by omega⟩
    obtain rfl : i = s.size := by omega
    have e : s.data.toList.take s.size = s.data.toList := List.take_of_length_le (by simp)
    rw [e] at hc
    unfold bellmanref19_Split.l0
    rw [if_neg (by omega), if_pos (by omega), if_pos (by omega), if_pos (by omega), spC_clean 32 _ hc]
    rw [show ((f : Int)).toNat = f by omega, extract_ba, e]
    rfl
  | succ n ih =>
    intro i f k x hn hf hi hk hx hc
    obtain ⟨k, rfl⟩ : ∃ k', k = k' + 1 := ⟨k - 1, by omega⟩
    have hlt : i < s.size := by omega
    have c1 : (i : Int) < (s.size : Int) := by omega
    have c1' : (i : Int) ≤ (s.size : Int) := by omega
    have c2 : (0 : Int) ≤ (i : Int) := by omega
    have c3 : (0 : Int) ≤ (f : Int) := by omega
    have c4 : (f : Int) ≤ (i : Int) := by omega
    have c5 : x.length < 8796093022208 := by omega
    have n1 : s.size - (i + 1) = n := by omega
    have n2 : n + 1 ≤ k := by omega
    have n3 : f ≤ i + 1 := by omega
    have n4 : ∀ y, (x ++ [y]).length ≤ i + 1 := fun y => by rw [List.length_append, List.length_singleton]; omega
    have n5 : x.length ≤ i + 1 := by omega
    have e1 : ((f : Int)).toNat = f := by omega
    have e2 : ((i : Int)).toNat = i := by omega
    have hw : wrap64 ((i : Int) + 1) = ((i + 1 : Nat) : Int) := by rw [w64 (by omega) (by omega)]; omega
    have el : s.data.toList.length = s.size := Array.length_toList
    have hlt' : i < s.data.toList.length := el ▸ hlt
    have hb := bt_nat s i hlt
    have hft : f ≤ (s.data.toList.take i).length := by rw [List.length_take, el]; exact Nat.le_min.2 ⟨hf, Nat.le_trans hf hi⟩
    have hsplit : s.data.toList.drop f = (s.data.toList.take i).drop f ++ s.data.toList[i]'hlt' :: s.data.toList.drop (i + 1) := by
      conv => lhs; rw [← List.take_append_drop i s.data.toList, List.drop_append_of_le_length hft]
      rw [List.drop_eq_getElem_cons hlt']
    rw [bellmanref19_Split.l0, if_pos c1, if_pos c2, hb, hw]
    by_cases h32 : ((s.data.toList[i]'hlt').toNat : Int) = 32
    · have hc32 : s.data.toList[i]'hlt' = 32 := UInt8.toNat_inj.1 (Int.ofNat.inj h32)
      rw [if_pos h32, if_pos c3, if_pos c4, if_pos c1', if_pos c5]
      have h2 := ih (i + 1) (i + 1) k (x ++ [s.extract (f : Int).toNat (i : Int).toNat]) n1 (Nat.le_refl _) hlt n2 (n4 _) (by
        intro c hc
        rw [List.drop_of_length_le (by rw [List.length_take]; exact Nat.min_le_left _ _)] at hc
        exact absurd hc (by simp))
      rw [h2, hsplit, hc32, spC_cut 32 _ _ hc, List.map_cons, e1, e2, extract_ba, List.append_assoc]
      rfl
    · rw [if_neg h32]
      have hne : s.data.toList[i]'hlt' ≠ 32 := fun e => h32 (by rw [e]; rfl)
      refine ih (i + 1) f k x n1 n3 hlt n2 n5 ?_
      intro c hcm
      rw [List.take_succ_eq_append_getElem hlt', List.drop_append_of_le_length hft] at hcm
      rcases List.mem_append.1 hcm with h | h
      · exact hc c h
      · rw [List.mem_singleton.1 h]; exact hne

theorem rsplit (s : ByteArray) (k : Nat) (hs : s.size ≤ 1000000) (hk : s.size + 1 ≤ k) : bellmanref19_Split.f k s = some (words s) := by
  have := rsplit_l0 s hs s.size 0 0 k [] (by omega) (by omega) (by omega) hk (by simp) (by simp)
  unfold bellmanref19_Split.f
  rw [words_eq]
  simpa using this

/-! ### Num -/
theorem rnum_l0 (s : ByteArray) (hs : s.size ≤ 4) : ∀ (n i k : Nat) (x : Int), s.size - i = n → i ≤ s.size → n + 1 ≤ k → 0 ≤ x → x < 10 ^ i →
    bellmanref19_Num.l0 k s x (i : Int) = some (numGo x (s.data.toList.drop i)) := by
  intro n
  induction n with
  | zero =>
    intro i k x hn hi hk _ _
    obtain ⟨k, rfl⟩ : ∃ k', k = k' + 1 := ⟨k - 1, by omega⟩
    unfold bellmanref19_Num.l0
    rw [if_neg (by omega), List.drop_of_length_le (by simp; omega)]
    rfl
  | succ n ih =>
    intro i k x hn hi hk h0 h1
    obtain ⟨k, rfl⟩ : ∃ k', k = k' + 1 := ⟨k - 1, by omega⟩
    have hlt : i < s.size := by omega
    have c1 : (i : Int) < (s.size : Int) := by omega
    have c2 : (0 : Int) ≤ (i : Int) := by omega
    have n1 : s.size - (i + 1) = n := by omega
    have n2 : n + 1 ≤ k := by omega
    have hw : wrap64 ((i : Int) + 1) = ((i + 1 : Nat) : Int) := by rw [w64 (by omega) (by omega)]; omega
    have h4 : (10 : Int) ^ i ≤ 10000 := by
      have : i = 0 ∨ i = 1 ∨ i = 2 ∨ i = 3 := by omega
      rcases this with rfl | rfl | rfl | rfl <;> decide
    have el : s.data.toList.length = s.size := Array.length_toList
    have hlt' : i < s.data.toList.length := el ▸ hlt
    have hb := bt_nat s i hlt
    rw [bellmanref19_Num.l0, if_pos c1, if_pos c2, hb, hw, List.drop_eq_getElem_cons hlt']
    have ih := fun x => ih (i + 1) k x n1 hlt n2
    rw [Int.pow_succ] at ih
    generalize (10 : Int) ^ i = T at *
    generalize s.data.toList[i]'hlt' = c at *
    have hc := c.toNat_lt
    unfold numGo
    by_cases a : (c.toNat : Int) < 48
    · rw [if_pos a, if_pos (by omega)]
    rw [if_neg a]
    by_cases b : (c.toNat : Int) > 57
    · rw [if_pos b, if_pos (by omega)]
    rw [if_neg b, if_neg (by omega)]
    have e : wrap64 ((wrap64 ((wrap64 (x * 10)) + (wrap64 (c.toNat : Int)))) - 48) = x * 10 + c.toNat - 48 := by
      rw [w64 (a := x * 10) (by omega) (by omega), w64 (a := (c.toNat : Int)) (by omega) (by omega), w64 (a := x * 10 + c.toNat) (by omega) (by omega), w64 (by omega) (by omega)]
    rw [e]
    exact ih _ (by omega) (by omega)
theorem rnum (s : ByteArray) (k : Nat) (hk : 10 ≤ k) : bellmanref19_Num.f k s = some (numS s.data.toList) := by
  obtain ⟨k, rfl⟩ : ∃ k', k = k' + 1 := ⟨k - 1, by omega⟩
  have el : s.data.toList.length = s.size := Array.length_toList
  have hj : bellmanref19_Num.j0 (k + 1) s true = some (-1) := rfl
  have hj2 : ∀ b, b = false → s.size ≤ 4 → bellmanref19_Num.j0 (k + 1) s b = some (numGo 0 s.data.toList) := by
    rintro b rfl h4
    have := rnum_l0 s h4 s.size 0 k 0 (by omega) (by omega) (by omega) (by omega) (by simp)
    rw [bellmanref19_Num.j0, if_neg (by simp)]
    simpa using this
  unfold bellmanref19_Num.f numS
  rw [el]
  by_cases a : (s.size : Int) < 1
  · rw [if_pos a, hj, if_pos (.inl (by omega))]
  rw [if_neg a]
  by_cases b : (s.size : Int) > 4
  · rw [if_pos b, hj, if_pos (.inr (.inl (by omega)))]
  rw [if_neg b]
  have h00 : 0 < s.size := by omega
  have hb := bt_nat s 0 h00
  by_cases c : (s.size : Int) > 1
  · rw [if_pos c, if_pos (by omega)]
    have hh : s.data.toList.head? = some (s.data.toList[0]'(by omega)) := by rw [List.head?_eq_getElem?]; exact List.getElem?_eq_getElem _
    simp only [Int.cast_ofNat_Int] at hb
    rw [hb, hh]
    generalize s.data.toList[0]'(by omega) = d at *
    by_cases h48 : d = 48
    · subst h48
      rw [if_pos (.inr (.inr ⟨by omega, rfl⟩))]
      exact hj
    · have hd : ((d.toNat : Int) == 48) = false := by
        have : d.toNat ≠ 48 := fun e => h48 (UInt8.toNat_inj.1 (by simpa using e))
        simp; omega
      rw [hj2 _ hd (by omega), if_neg (by rintro (h | h | ⟨_, h⟩) <;> first | omega | exact h48 (Option.some.inj h))]
  · rw [if_neg c, hj2 false rfl (by omega), if_neg (by rintro (h | h | ⟨h, _⟩) <;> omega)]
end Go.Proofs.YtodiohoiekkodaaDoor.Op
end
