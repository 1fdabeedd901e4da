/- The walks of layer 19's laws, the main ways. The walk of OpLines, the main ways. The walk of OpLines, the main ways. -/
import Derived.Test.YtodiohoiekkodaaDoorMa15
import Derived.Test.YtodiohoiekkodaaDoorWLast
section
set_option linter.unusedVariables false
attribute [local go_sem high] Go.Proofs.YtodiohoiekkodaaDoor.eqOp
namespace Go.Proofs.YtodiohoiekkodaaDoor.Op
open Go.RowKit Go.Proofs.YtodiohoiekkodaaDoor.Bd Go.Proofs.YtodiohoiekkodaaDoor.Sp Go.Proofs.YtodiohoiekkodaaDoor.Rf Go.Proofs.YtodiohoiekkodaaDoorW.PrintWords

/-- What the reference reads is an operation and a number. -/
theorem refParse_shape (s : ByteArray) : ∃ (k sub : Int) (t p : ByteArray) (keep : Bool) (f : Int), refParseV s = .tuple #[opV k sub t p keep, .int .i64 f] := by
  unfold refParseV
  split
  · exact ⟨_, _, _, _, _, _, rfl⟩
  · split
    · exact ⟨_, _, _, _, _, _, rfl⟩
    · split <;> exact ⟨_, _, _, _, _, _, rfl⟩

set_option maxHeartbeats 1000000 in
set_option maxRecDepth 100000 in
theorem parses_short (s : ByteArray) (w : World) (hG : Glob w) (hl : decide ((s.size : Int) > 300) = false) : Calls Tryd.prog 4 #[.string s] w fun e w' => e = .returned (.bool true) ∧ Below w.heap.size w w' := by
  have hs : s.size ≤ 1000 := by have := of_decide_eq_false hl; omega
  obtain ⟨k, sub, t, p, keep, f, hv⟩ := refParse_shape s
  have hv2 : parseV s = .tuple #[opV k sub t p keep, .int .i64 f] := (parse_agree s).trans hv
  have HV := Lib.hid hv
  have HV2 := Lib.hid hv2
  have HL := Lib.hid hl
  clear hl hv hv2
  go_enter Tryd.func4, Tryd.ntmps4
  go_wp2_with fail
  refine (awake19 w hG).mono ?_
  rintro e w1 ⟨rfl, hb1⟩
  have HB := Lib.hid hb1
  clear hb1
  go_wp2_with fail
  refine (long_any s w1).mono ?_
  rintro e w2 ⟨rfl, ⟨n, rfl⟩⟩
  rw [HL.out]
  have HB2 : Hid (Below w.heap.size w (w1.drewN n)) := Lib.hid (pw_below_drewN HB.out _)
  generalize w1.drewN n = w2 at *
  go_wp2_with fail
  refine (parse_any s _ (hG.below HB2.out) (by omega)).mono ?_
  rintro e w3 ⟨rfl, hb3⟩
  rw [HV2.out]
  have hb4 : Below w.heap.size w (w3.alloc (.cells #[.int .i64 k, .int .i64 sub, .string t, .string p, .bool keep] 23)) := (HB2.out.trans (hb3.mono HB2.out.size)).alloc (Nat.le_trans HB2.out.size hb3.size) _
  have q1 : XAt w3.heap.size k sub t p keep (w3.alloc (.cells #[.int .i64 k, .int .i64 sub, .string t, .string p, .bool keep] 23)) := heap_alloc_new _ _
  have HB3 := Lib.hid hb4
  have Q1 := Lib.hid q1
  clear hb3 hb4 q1
  go_wp2_with fail
  refine (rparse_any s _ hs).mono ?_
  rintro e w4 ⟨rfl, hb5⟩
  rw [HV.out]
  have hb6 : Below w.heap.size w (w4.alloc (.cells #[.int .i64 k, .int .i64 sub, .string t, .string p, .bool keep] 23)) := (HB3.out.trans (hb5.mono HB3.out.size)).alloc (Nat.le_trans HB3.out.size hb5.size) _
  have q2 : XAt w3.heap.size k sub t p keep (w4.alloc (.cells #[.int .i64 k, .int .i64 sub, .string t, .string p, .bool keep] 23)) := keepX ((Below.refl _ _).alloc (Nat.le_refl _) _) (keepX hb5 Q1.out)
  have y0 := opc0 q2
  have y1 := opc1 q2
  have y2 := opc2 q2
  have y3 := opc3 q2
  have y4 := opc4 q2
  have HB4 := Lib.hid hb6
  clear hb5 hb6 q2
  go_wp2
  go_ret
  exact ⟨rfl, HB4.out⟩
theorem parses_any (s : ByteArray) (w : World) (hG : Glob w) : Calls Tryd.prog 4 #[.string s] w fun e w' => e = .returned (.bool true) ∧ Below w.heap.size w w' := by
  rcases dec_cases ((s.size : Int) > 300) with h | h
  · exact parses_long s w hG h
  · exact parses_short s w hG h

theorem alloc_at (k sub : Int) (t p : ByteArray) (keep : Bool) (w : World) : XAt w.heap.size k sub t p keep (w.alloc (.cells #[.int .i64 k, .int .i64 sub, .string t, .string p, .bool keep] 23)) := heap_alloc_new _ _

set_option maxHeartbeats 1000000 in
set_option maxRecDepth 100000 in
theorem lines_long1 (k sub : Int) (t p : ByteArray) (keep : Bool) (w : World) (hG : Glob w) (hl : decide ((t.size : Int) > 300) = true) : Calls Tryd.prog 3 #[opV k sub t p keep] w fun e w' => e = .returned (.bool true) ∧ Below w.heap.size w w' := by
  have HL := Lib.hid hl
  have q := alloc_at k sub t p keep w
  have hb : Below w.heap.size w (w.alloc (.cells #[.int .i64 k, .int .i64 sub, .string t, .string p, .bool keep] 23)) := (Below.refl _ _).alloc (Nat.le_refl _) _
  have Q := Lib.hid q
  have HB := Lib.hid hb
  clear hl q hb
  go_enter Tryd.func3, Tryd.ntmps3
  go_wp2_with fail
  refine (awake19 _ (hG.below HB.out)).mono ?_
  rintro e w1 ⟨rfl, hb1⟩
  have HB1 : Hid (Below w.heap.size w w1) := Lib.hid (HB.out.trans (hb1.mono HB.out.size))
  have y2 := opc2 (keepX hb1 Q.out)
  clear hb1
  go_wp2_with fail
  refine (long_any t w1).mono ?_
  rintro e w2 ⟨rfl, ⟨n, rfl⟩⟩
  rw [HL.out]
  go_wp2_with fail
  go_ret
  exact ⟨rfl, pw_below_drewN HB1.out _⟩

set_option maxHeartbeats 1000000 in
set_option maxRecDepth 100000 in
theorem lines_long2 (k sub : Int) (t p : ByteArray) (keep : Bool) (w : World) (hG : Glob w) (hl : decide ((t.size : Int) > 300) = false) (hm : decide ((p.size : Int) > 300) = true) : Calls Tryd.prog 3 #[opV k sub t p keep] w fun e w' => e = .returned (.bool true) ∧ Below w.heap.size w w' := by
  have HL := Lib.hid hl
  have HM := Lib.hid hm
  have q := alloc_at k sub t p keep w
  have hb : Below w.heap.size w (w.alloc (.cells #[.int .i64 k, .int .i64 sub, .string t, .string p, .bool keep] 23)) := (Below.refl _ _).alloc (Nat.le_refl _) _
  have Q := Lib.hid q
  have HB := Lib.hid hb
  clear hl q hb hm
  go_enter Tryd.func3, Tryd.ntmps3
  go_wp2_with fail
  refine (awake19 _ (hG.below HB.out)).mono ?_
  rintro e w1 ⟨rfl, hb1⟩
  have HB1 : Hid (Below w.heap.size w w1) := Lib.hid (HB.out.trans (hb1.mono HB.out.size))
  have q1 := keepX hb1 Q.out
  have y2 := opc2 q1
  have Q1 := Lib.hid q1
  clear hb1 q1
  go_wp2_with fail
  refine (long_any t w1).mono ?_
  rintro e w2 ⟨rfl, hd⟩
  rw [HL.out]
  obtain ⟨n, rfl⟩ := hd
  have y3 : (w1.drewN n).cell? ⟨w.heap.size, 3, none⟩ = some (.string p) := opc3 Q1.out
  have HB2 : Hid (Below w.heap.size w (w1.drewN n)) := Lib.hid (pw_below_drewN HB1.out _)
  clear y2 HB1 Q1
  generalize w1.drewN n = w2 at *
  go_wp2_with fail
  refine (long_any p _).mono ?_
  rintro e w3 ⟨rfl, ⟨n2, rfl⟩⟩
  rw [HM.out]
  go_wp2_with fail
  go_ret
  exact ⟨rfl, pw_below_drewN HB2.out _⟩
end Go.Proofs.YtodiohoiekkodaaDoor.Op
end

section
set_option linter.unusedVariables false
attribute [local go_sem high] Go.Proofs.YtodiohoiekkodaaDoor.eqOp
namespace Go.Proofs.YtodiohoiekkodaaDoor.Op
open Go.RowKit Go.Proofs.YtodiohoiekkodaaDoor.Bd Go.Proofs.YtodiohoiekkodaaDoor.Sp Go.Proofs.YtodiohoiekkodaaDoor.Rf Go.Proofs.YtodiohoiekkodaaDoorW.PrintWords

theorem keepXH {W w' : World} {b : Nat} {o : Obj} (h : Hid (W.heap[b]? = some o)) (hb : Below W.heap.size W w') : Hid (w'.heap[b]? = some o) := Lib.hid (keepX hb h.out)
theorem keepBH {w W w' : World} (h : Hid (Below w.heap.size w W)) (hb : Below W.heap.size W w') : Hid (Below w.heap.size w w') := Lib.hid (h.out.trans (hb.mono h.out.size))

set_option maxHeartbeats 2000000 in
set_option maxRecDepth 100000 in
theorem lines_bad (k sub : Int) (t p : ByteArray) (keep : Bool) (w : World) (hG : Glob w) (hl : decide ((t.size : Int) > 300) = false) (hm : decide ((p.size : Int) > 300) = false) (hp : plainOK k sub t p keep = false) : Calls Tryd.prog 3 #[opV k sub t p keep] w fun e w' => e = .returned (.bool true) ∧ Below w.heap.size w w' := by
  have ht : t.size ≤ 1000 := by have := of_decide_eq_false hl; omega
  have hq : p.size ≤ 1000 := by have := of_decide_eq_false hm; omega
  obtain ⟨L, hv⟩ : ∃ L, lineV k sub t p keep = .tuple #[.string L, .int .i64 10] := ⟨_, by unfold lineV; rw [hp]; rfl⟩
  have HL := Lib.hid hl
  have HM := Lib.hid hm
  have HV := Lib.hid hv
  have HP := Lib.hid hp
  have Q := Lib.hid (alloc_at k sub t p keep w)
  have HB : Hid (Below w.heap.size w (w.alloc (.cells #[.int .i64 k, .int .i64 sub, .string t, .string p, .bool keep] 23))) := Lib.hid ((Below.refl _ _).alloc (Nat.le_refl _) _)
  clear hl hm hv hp
  go_enter Tryd.func3, Tryd.ntmps3
  go_wp2_with fail
  refine (awake19 _ (hG.below HB.out)).mono ?_
  rintro e w1 ⟨rfl, hb1⟩
  have HB1 := keepBH HB hb1
  have Q1 := keepXH Q hb1
  have y2 := opc2 Q1.out
  clear hb1
  go_wp2_with fail
  refine (long_any t w1).mono ?_
  rintro e w2 ⟨rfl, hd⟩
  rw [HL.out]
  obtain ⟨n, rfl⟩ := hd
  have y3 : (w1.drewN n).cell? ⟨w.heap.size, 3, none⟩ = some (.string p) := opc3 Q1.out
  have HB2 : Hid (Below w.heap.size w (w1.drewN n)) := Lib.hid (pw_below_drewN HB1.out _)
  have Q2 : Hid (XAt w.heap.size k sub t p keep (w1.drewN n)) := Lib.hid Q1.out
  clear y2 HB1 Q1
  generalize w1.drewN n = w2 at *
  go_wp2_with fail
  refine (long_any p _).mono ?_
  rintro e w3 ⟨rfl, ⟨n2, rfl⟩⟩
  rw [HM.out]
  have HB3 : Hid (Below w.heap.size w (w2.drewN n2)) := Lib.hid (pw_below_drewN HB2.out _)
  have Q3 : Hid (XAt w.heap.size k sub t p keep (w2.drewN n2)) := Lib.hid Q2.out
  clear y3 HB2 Q2
  generalize w2.drewN n2 = w3 at *
  have y0 := opc0 Q3.out; have y1 := opc1 Q3.out; have y2 := opc2 Q3.out; have y3 := opc3 Q3.out; have y4 := opc4 Q3.out
  go_wp2_with fail
  refine (line_any k sub t p keep _ (hG.below HB3.out) (by omega) (by omega)).mono ?_
  rintro e w4 ⟨rfl, hb4⟩
  rw [HV.out]
  have HB4 := keepBH HB3 hb4
  have Q4 := keepXH Q3 hb4
  clear y0 y1 y2 y3 y4 hb4
  have y0 := opc0 Q4.out; have y1 := opc1 Q4.out; have y2 := opc2 Q4.out; have y3 := opc3 Q4.out; have y4 := opc4 Q4.out
  go_wp2_with fail
  refine (rline_any k sub t p keep _ ht hq).mono ?_
  rintro e w5 ⟨rfl, hb5⟩
  rw [HV.out]
  have HB5 := keepBH HB4 hb5
  have Q5 := keepXH Q4 hb5
  clear y0 y1 y2 y3 y4 hb5
  have y0 := opc0 Q5.out; have y1 := opc1 Q5.out; have y2 := opc2 Q5.out; have y3 := opc3 Q5.out; have y4 := opc4 Q5.out
  have HB6 : Hid (Below w.heap.size w w5.drew) := Lib.hid HB5.out.drew
  have Q6 : Hid (XAt w.heap.size k sub t p keep w5.drew) := Lib.hid Q5.out
  go_wp2_with fail
  refine Go.Proofs.YtodiohoiekkodaaDoorW.PrintLast.start_ (n := 15) (S := (fun w' => w'.cell? ⟨w.heap.size, 0, none⟩ = some (.int .i64 k) ∧ w'.cell? ⟨w.heap.size, 1, none⟩ = some (.int .i64 sub) ∧ w'.cell? ⟨w.heap.size, 2, none⟩ = some (.string t) ∧ w'.cell? ⟨w.heap.size, 3, none⟩ = some (.string p) ∧ w'.cell? ⟨w.heap.size, 4, none⟩ = some (.bool keep))) (ds := []) #[false, false, false, false, false, false, false, false, false, false, false, false, false, false, false] (by kernel_rfl) rfl rfl ⟨opc0 Q6.out, opc1 Q6.out, opc2 Q6.out, opc3 Q6.out, opc4 Q6.out⟩ (fun hHeld => ?_)
  refine Go.Proofs.YtodiohoiekkodaaDoorW.PrintLast.take_ (i := 0) (N := (some 29)) (v := ?_) (a' := ?_) #[true, false, false, false, false, false, false, false, false, false, false, false, false, false, false] rfl rfl (by kernel_rfl) (fun _ _ _ h => h) (Or.inl ⟨by rfl, ?_⟩) hHeld ?_ ?_
  rotate_left
  · intro w' hh; (try obtain ⟨s0, s1, s2, s3, s4, s5, s6, s7⟩ := hh); (try obtain ⟨s0, s1, s2, s3, s4, s5, s6⟩ := hh); (try obtain ⟨s0, s1, s2, s3, s4, s5⟩ := hh); (try obtain ⟨s0, s1, s2, s3, s4⟩ := hh); (try obtain ⟨s0, s1, s2, s3⟩ := hh); (try obtain ⟨s0, s1, s2⟩ := hh); (try obtain ⟨s0, s1⟩ := hh); go_simp; try (with_reducible rfl)
  rotate_left
  · simp only [Act.put, List.setIfInBounds_toArray, List.set_cons_zero, List.set_cons_succ]; rfl
  refine Go.Proofs.YtodiohoiekkodaaDoorW.PrintLast.take_ (i := 2) (N := (some 31)) (v := ?_) (a' := ?_) #[true, false, true, false, false, false, false, false, false, false, false, false, false, false, false] rfl rfl (by kernel_rfl) (fun _ _ _ h => h) (Or.inl ⟨by rfl, ?_⟩) hHeld ?_ ?_
  rotate_left
  · intro w' hh; (try obtain ⟨s0, s1, s2, s3, s4, s5, s6, s7⟩ := hh); (try obtain ⟨s0, s1, s2, s3, s4, s5, s6⟩ := hh); (try obtain ⟨s0, s1, s2, s3, s4, s5⟩ := hh); (try obtain ⟨s0, s1, s2, s3, s4⟩ := hh); (try obtain ⟨s0, s1, s2, s3⟩ := hh); (try obtain ⟨s0, s1, s2⟩ := hh); (try obtain ⟨s0, s1⟩ := hh); go_simp; try (with_reducible rfl)
  rotate_left
  · simp only [Act.put, List.setIfInBounds_toArray, List.set_cons_zero, List.set_cons_succ]; rfl
  refine Go.Proofs.YtodiohoiekkodaaDoorW.PrintLast.one_ (i := 1) (N := (some 30)) #[true, true, true, false, false, false, false, false, false, false, false, false, false, false, false] rfl rfl (by kernel_rfl) (by decide) (fun K hK => ?_)
  have HK := hK
  clear hK hHeld
  go_simp
  refine (plain_any k sub t p keep _).mono ?_
  rintro e w7 ⟨rfl, hb⟩
  rw [HP.out]
  have HB7 := keepBH HB6 hb
  have Q7 : Hid (XAt w.heap.size k sub t p keep w7) := keepXH Q6 hb
  clear hb
  refine HK.out _ _ (⟨opc0 Q7.out, opc1 Q7.out, opc2 Q7.out, opc3 Q7.out, opc4 Q7.out⟩) (fun hHeld => ?_)
  clear HK
  try (simp only [Act.put, List.setIfInBounds_toArray, List.set_cons_zero, List.set_cons_succ])
  refine Go.Proofs.YtodiohoiekkodaaDoorW.PrintLast.one_ (i := 3) (N := (some 32)) #[true, true, true, true, false, false, false, false, false, false, false, false, false, false, false] rfl rfl (by kernel_rfl) (by decide) (fun K hK => ?_)
  have HK := hK
  clear hK hHeld
  go_simp
  refine (rplain_any k sub t p keep _).mono ?_
  rintro e w8 ⟨rfl, hb⟩
  rw [HP.out]
  have HB8 := keepBH HB7 hb
  have Q8 : Hid (XAt w.heap.size k sub t p keep w8) := keepXH Q7 hb
  clear hb
  refine HK.out _ _ (⟨opc0 Q8.out, opc1 Q8.out, opc2 Q8.out, opc3 Q8.out, opc4 Q8.out⟩) (fun hHeld => ?_)
  clear HK
  try (simp only [Act.put, List.setIfInBounds_toArray, List.set_cons_zero, List.set_cons_succ])
  refine Go.Proofs.YtodiohoiekkodaaDoorW.PrintLast.pure_ (i := 4) (N := (some 33)) (v := ?_) (a' := ?_) #[true, true, true, true, true, false, false, false, false, false, false, false, false, false, false] rfl rfl (by kernel_rfl) (fun _ _ _ h => h) (Or.inl ⟨by rfl, ?_⟩) ?_ ?_
  rotate_left
  · intro w'; go_simp; try (with_reducible rfl)
  rotate_left
  · simp only [Act.put, List.setIfInBounds_toArray, List.set_cons_zero, List.set_cons_succ]; rfl
  refine Go.Proofs.YtodiohoiekkodaaDoorW.PrintLast.pure_ (i := 5) (N := (some 34)) (v := ?_) (a' := ?_) #[true, true, true, true, true, true, false, false, false, false, false, false, false, false, false] rfl rfl (by kernel_rfl) (fun _ _ _ h => h) (Or.inl ⟨by rfl, ?_⟩) ?_ ?_
  rotate_left
  · intro w'; go_simp; try (with_reducible rfl)
  rotate_left
  · simp only [Act.put, List.setIfInBounds_toArray, List.set_cons_zero, List.set_cons_succ]; rfl
  refine Go.Proofs.YtodiohoiekkodaaDoorW.PrintLast.pure_ (i := 6) (N := (some 35)) (v := ?_) (a' := ?_) #[true, true, true, true, true, true, true, false, false, false, false, false, false, false, false] rfl rfl (by kernel_rfl) (fun _ _ _ h => h) (Or.inl ⟨by rfl, ?_⟩) ?_ ?_
  rotate_left
  · intro w'; go_simp; try (with_reducible rfl)
  rotate_left
  · simp only [Act.put, List.setIfInBounds_toArray, List.set_cons_zero, List.set_cons_succ]; rfl
  refine Go.Proofs.YtodiohoiekkodaaDoorW.PrintLast.pure_ (i := 7) (N := (some 36)) (v := ?_) (a' := ?_) #[true, true, true, true, true, true, true, true, false, false, false, false, false, false, false] rfl rfl (by kernel_rfl) (fun _ _ _ h => h) (Or.inl ⟨by rfl, ?_⟩) ?_ ?_
  rotate_left
  · intro w'; go_simp; try (with_reducible rfl)
  rotate_left
  · simp only [Act.put, List.setIfInBounds_toArray, List.set_cons_zero, List.set_cons_succ]; rfl
  refine Go.Proofs.YtodiohoiekkodaaDoorW.PrintLast.pure_ (i := 8) (N := (some 37)) (v := ?_) (a' := ?_) #[true, true, true, true, true, true, true, true, true, false, false, false, false, false, false] rfl rfl (by kernel_rfl) (fun _ _ _ h => h) (Or.inl ⟨by rfl, ?_⟩) ?_ ?_
  rotate_left
  · intro w'; go_simp; try (with_reducible rfl)
  rotate_left
  · simp only [Act.put, List.setIfInBounds_toArray, List.set_cons_zero, List.set_cons_succ]; rfl
  refine Go.Proofs.YtodiohoiekkodaaDoorW.PrintLast.pure_ (i := 9) (N := (some 38)) (v := ?_) (a' := ?_) #[true, true, true, true, true, true, true, true, true, true, false, false, false, false, false] rfl rfl (by kernel_rfl) (fun _ _ _ h => h) (Or.inl ⟨by rfl, ?_⟩) ?_ ?_
  rotate_left
  · intro w'; go_simp; try (with_reducible rfl)
  rotate_left
  · simp only [Act.put, List.setIfInBounds_toArray, List.set_cons_zero, List.set_cons_succ]; rfl
  refine Go.Proofs.YtodiohoiekkodaaDoorW.PrintLast.pure_ (i := 10) (N := (some 39)) (v := ?_) (a' := ?_) #[true, true, true, true, true, true, true, true, true, true, true, false, false, false, false] rfl rfl (by kernel_rfl) (fun _ _ _ h => h) (Or.inl ⟨by rfl, ?_⟩) ?_ ?_
  rotate_left
  · intro w'; go_simp; try (with_reducible rfl)
  rotate_left
  · simp only [Act.put, List.setIfInBounds_toArray, List.set_cons_zero, List.set_cons_succ]; rfl
  refine Go.Proofs.YtodiohoiekkodaaDoorW.PrintLast.pure_ (i := 11) (N := (some 40)) (v := ?_) (a' := ?_) #[true, true, true, true, true, true, true, true, true, true, true, true, false, false, false] rfl rfl (by kernel_rfl) (fun _ _ _ h => h) (Or.inl ⟨by rfl, ?_⟩) ?_ ?_
  rotate_left
  · intro w'; go_simp; try (with_reducible rfl)
  rotate_left
  · simp only [Act.put, List.setIfInBounds_toArray, List.set_cons_zero, List.set_cons_succ]; rfl
  refine Go.Proofs.YtodiohoiekkodaaDoorW.PrintLast.pure_ (i := 12) (N := (some 41)) (v := ?_) (a' := ?_) #[true, true, true, true, true, true, true, true, true, true, true, true, true, false, false] rfl rfl (by kernel_rfl) (fun _ _ _ h => h) (Or.inl ⟨by rfl, ?_⟩) ?_ ?_
  rotate_left
  · intro w'; go_simp; try (with_reducible rfl)
  rotate_left
  · simp only [Act.put, List.setIfInBounds_toArray, List.set_cons_zero, List.set_cons_succ]; rfl
  refine Go.Proofs.YtodiohoiekkodaaDoorW.PrintLast.pure_ (i := 13) (N := (some 42)) (v := ?_) (a' := ?_) #[true, true, true, true, true, true, true, true, true, true, true, true, true, true, false] rfl rfl (by kernel_rfl) (fun _ _ _ h => h) (Or.inl ⟨by rfl, ?_⟩) ?_ ?_
  rotate_left
  · intro w'; go_simp; try (with_reducible rfl)
  rotate_left
  · simp only [Act.put, List.setIfInBounds_toArray, List.set_cons_zero, List.set_cons_succ]; rfl
  refine Go.Proofs.YtodiohoiekkodaaDoorW.PrintLast.pure_ (i := 14) (N := (some 43)) (v := ?_) (a' := ?_) #[true, true, true, true, true, true, true, true, true, true, true, true, true, true, true] rfl rfl (by kernel_rfl) (fun _ _ _ h => h) (Or.inl ⟨by rfl, ?_⟩) ?_ ?_
  rotate_left
  · intro w'; go_simp; try (with_reducible rfl)
  rotate_left
  · simp only [Act.put, List.setIfInBounds_toArray, List.set_cons_zero, List.set_cons_succ]; rfl
  refine Go.Proofs.YtodiohoiekkodaaDoorW.PrintLast.done_ (by kernel_rfl) ?_
  go_wp2_with fail
  go_ret
  exact ⟨rfl, HB8.out⟩

end Go.Proofs.YtodiohoiekkodaaDoor.Op
end

section
set_option linter.unusedVariables false
attribute [local go_sem high] Go.Proofs.YtodiohoiekkodaaDoor.eqOp
namespace Go.Proofs.YtodiohoiekkodaaDoor.Op
open Go.RowKit Go.Proofs.YtodiohoiekkodaaDoor.Bd Go.Proofs.YtodiohoiekkodaaDoor.Sp Go.Proofs.YtodiohoiekkodaaDoor.Rf Go.Proofs.YtodiohoiekkodaaDoorW.PrintWords
theorem line_size {k sub : Int} {t p : ByteArray} {keep : Bool} (h : plainOK k sub t p keep = true) (ht : t.size ≤ 300) (hp : p.size ≤ 300) : (lineB k sub t p keep).size ≤ 2000 := by
  obtain ⟨_, _, _, h0, h1⟩ := plain_told h
  have a1 := nameOf_size k keep
  have a2 := wordB_size t
  have a3 := wordB_size p
  have a4 := itoa_len sub h0 h1
  unfold lineB
  rw [ba_size]
  unfold lineWords
  split
  · simp only [List.map_cons, List.map_nil, Lib.join, List.intercalate, List.length_append, List.length_cons, List.length_nil, List.intersperse, List.flatten_cons, List.flatten_nil]; omega
  split
  · simp only [List.map_cons, List.map_nil, Lib.join, List.intercalate, List.length_append, List.length_cons, List.length_nil, List.intersperse, List.flatten_cons, List.flatten_nil]; omega
  · simp only [List.map_cons, List.map_nil, Lib.join, List.intercalate, List.length_append, List.length_cons, List.length_nil, List.intersperse, List.flatten_cons, List.flatten_nil]; omega

set_option maxHeartbeats 2000000 in
set_option maxRecDepth 100000 in
theorem lines_good (k sub : Int) (t p : ByteArray) (keep : Bool) (w : World) (hG : Glob w) (hl : decide ((t.size : Int) > 300) = false) (hm : decide ((p.size : Int) > 300) = false) (hp : plainOK k sub t p keep = true) : Calls Tryd.prog 3 #[opV k sub t p keep] w fun e w' => e = .returned (.bool true) ∧ Below w.heap.size w w' := by
  have ht : t.size ≤ 300 := by have := of_decide_eq_false hl; omega
  have hq : p.size ≤ 300 := by have := of_decide_eq_false hm; omega
  have hv : lineV k sub t p keep = .tuple #[.string (lineB k sub t p keep), .int .i64 0] := by unfold lineV; rw [hp]; rfl
  have hpv := parse_line hp
  have hsz : (lineB k sub t p keep).size ≤ 2000 := line_size hp ht hq
  have HL := Lib.hid hl
  have HM := Lib.hid hm
  have HV := Lib.hid hv
  have HP := Lib.hid hp
  have HPV := Lib.hid hpv
  clear hl hm hv hp hpv
  generalize lineB k sub t p keep = L at *
  have Q := Lib.hid (alloc_at k sub t p keep w)
  have HB : Hid (Below w.heap.size w (w.alloc (.cells #[.int .i64 k, .int .i64 sub, .string t, .string p, .bool keep] 23))) := Lib.hid ((Below.refl _ _).alloc (Nat.le_refl _) _)
  go_enter Tryd.func3, Tryd.ntmps3
  go_wp2_with fail
  refine (awake19 _ (hG.below HB.out)).mono ?_
  rintro e w1 ⟨rfl, hb1⟩
  have HB1 := keepBH HB hb1
  have Q1 := keepXH Q hb1
  have y2 := opc2 Q1.out
  clear hb1
  go_wp2_with fail
  refine (long_any t w1).mono ?_
  rintro e w2 ⟨rfl, hd⟩
  rw [HL.out]
  obtain ⟨n, rfl⟩ := hd
  have y3 : (w1.drewN n).cell? ⟨w.heap.size, 3, none⟩ = some (.string p) := opc3 Q1.out
  have HB2 : Hid (Below w.heap.size w (w1.drewN n)) := Lib.hid (pw_below_drewN HB1.out _)
  have Q2 : Hid (XAt w.heap.size k sub t p keep (w1.drewN n)) := Lib.hid Q1.out
  clear y2 HB1 Q1
  generalize w1.drewN n = w2 at *
  go_wp2_with fail
  refine (long_any p _).mono ?_
  rintro e w3 ⟨rfl, ⟨n2, rfl⟩⟩
  rw [HM.out]
  have HB3 : Hid (Below w.heap.size w (w2.drewN n2)) := Lib.hid (pw_below_drewN HB2.out _)
  have Q3 : Hid (XAt w.heap.size k sub t p keep (w2.drewN n2)) := Lib.hid Q2.out
  clear y3 HB2 Q2
  generalize w2.drewN n2 = w3 at *
  have y0 := opc0 Q3.out; have y1 := opc1 Q3.out; have y2 := opc2 Q3.out; have y3 := opc3 Q3.out; have y4 := opc4 Q3.out
  go_wp2_with fail
  refine (line_any k sub t p keep _ (hG.below HB3.out) (by omega) (by omega)).mono ?_
  rintro e w4 ⟨rfl, hb4⟩
  rw [HV.out]
  have HB4 := keepBH HB3 hb4
  have Q4 := keepXH Q3 hb4
  clear y0 y1 y2 y3 y4 hb4
  have y0 := opc0 Q4.out; have y1 := opc1 Q4.out; have y2 := opc2 Q4.out; have y3 := opc3 Q4.out; have y4 := opc4 Q4.out
  go_wp2_with fail
  refine (rline_any k sub t p keep _ (by omega) (by omega)).mono ?_
  rintro e w5 ⟨rfl, hb5⟩
  rw [HV.out]
  have HB5 := keepBH HB4 hb5
  have Q5 := keepXH Q4 hb5
  clear y0 y1 y2 y3 y4 hb5
  have y0 := opc0 Q5.out; have y1 := opc1 Q5.out; have y2 := opc2 Q5.out; have y3 := opc3 Q5.out; have y4 := opc4 Q5.out
  have HB6 : Hid (Below w.heap.size w w5.drew) := Lib.hid HB5.out.drew
  have Q6 : Hid (XAt w.heap.size k sub t p keep w5.drew) := Lib.hid Q5.out
  go_wp2_with fail
  refine Go.Proofs.YtodiohoiekkodaaDoorW.PrintLast.start_ (n := 15) (S := (fun w' => w'.cell? ⟨w.heap.size, 0, none⟩ = some (.int .i64 k) ∧ w'.cell? ⟨w.heap.size, 1, none⟩ = some (.int .i64 sub) ∧ w'.cell? ⟨w.heap.size, 2, none⟩ = some (.string t) ∧ w'.cell? ⟨w.heap.size, 3, none⟩ = some (.string p) ∧ w'.cell? ⟨w.heap.size, 4, none⟩ = some (.bool keep))) (ds := []) #[false, false, false, false, false, false, false, false, false, false, false, false, false, false, false] (by kernel_rfl) rfl rfl ⟨opc0 Q6.out, opc1 Q6.out, opc2 Q6.out, opc3 Q6.out, opc4 Q6.out⟩ (fun hHeld => ?_)
  refine Go.Proofs.YtodiohoiekkodaaDoorW.PrintLast.take_ (i := 0) (N := (some 29)) (v := ?_) (a' := ?_) #[true, false, false, false, false, false, false, false, false, false, false, false, false, false, false] rfl rfl (by kernel_rfl) (fun _ _ _ h => h) (Or.inl ⟨by rfl, ?_⟩) hHeld ?_ ?_
  rotate_left
  · intro w' hh; (try obtain ⟨s0, s1, s2, s3, s4, s5, s6, s7⟩ := hh); (try obtain ⟨s0, s1, s2, s3, s4, s5, s6⟩ := hh); (try obtain ⟨s0, s1, s2, s3, s4, s5⟩ := hh); (try obtain ⟨s0, s1, s2, s3, s4⟩ := hh); (try obtain ⟨s0, s1, s2, s3⟩ := hh); (try obtain ⟨s0, s1, s2⟩ := hh); (try obtain ⟨s0, s1⟩ := hh); go_simp; try (with_reducible rfl)
  rotate_left
  · simp only [Act.put, List.setIfInBounds_toArray, List.set_cons_zero, List.set_cons_succ]; rfl
  refine Go.Proofs.YtodiohoiekkodaaDoorW.PrintLast.take_ (i := 2) (N := (some 31)) (v := ?_) (a' := ?_) #[true, false, true, false, false, false, false, false, false, false, false, false, false, false, false] rfl rfl (by kernel_rfl) (fun _ _ _ h => h) (Or.inl ⟨by rfl, ?_⟩) hHeld ?_ ?_
  rotate_left
  · intro w' hh; (try obtain ⟨s0, s1, s2, s3, s4, s5, s6, s7⟩ := hh); (try obtain ⟨s0, s1, s2, s3, s4, s5, s6⟩ := hh); (try obtain ⟨s0, s1, s2, s3, s4, s5⟩ := hh); (try obtain ⟨s0, s1, s2, s3, s4⟩ := hh); (try obtain ⟨s0, s1, s2, s3⟩ := hh); (try obtain ⟨s0, s1, s2⟩ := hh); (try obtain ⟨s0, s1⟩ := hh); go_simp; try (with_reducible rfl)
  rotate_left
  · simp only [Act.put, List.setIfInBounds_toArray, List.set_cons_zero, List.set_cons_succ]; rfl
  refine Go.Proofs.YtodiohoiekkodaaDoorW.PrintLast.one_ (i := 1) (N := (some 30)) #[true, true, true, false, false, false, false, false, false, false, false, false, false, false, false] rfl rfl (by kernel_rfl) (by decide) (fun K hK => ?_)
  have HK := hK
  clear hK hHeld
  go_simp
  refine (plain_any k sub t p keep _).mono ?_
  rintro e w7 ⟨rfl, hb⟩
  rw [HP.out]
  have HB7 := keepBH HB6 hb
  have Q7 : Hid (XAt w.heap.size k sub t p keep w7) := keepXH Q6 hb
  clear hb
  refine HK.out _ _ (⟨opc0 Q7.out, opc1 Q7.out, opc2 Q7.out, opc3 Q7.out, opc4 Q7.out⟩) (fun hHeld => ?_)
  clear HK
  try (simp only [Act.put, List.setIfInBounds_toArray, List.set_cons_zero, List.set_cons_succ])
  refine Go.Proofs.YtodiohoiekkodaaDoorW.PrintLast.one_ (i := 3) (N := (some 32)) #[true, true, true, true, false, false, false, false, false, false, false, false, false, false, false] rfl rfl (by kernel_rfl) (by decide) (fun K hK => ?_)
  have HK := hK
  clear hK hHeld
  go_simp
  refine (rplain_any k sub t p keep _).mono ?_
  rintro e w8 ⟨rfl, hb⟩
  rw [HP.out]
  have HB8 := keepBH HB7 hb
  have Q8 : Hid (XAt w.heap.size k sub t p keep w8) := keepXH Q7 hb
  clear hb
  refine HK.out _ _ (⟨opc0 Q8.out, opc1 Q8.out, opc2 Q8.out, opc3 Q8.out, opc4 Q8.out⟩) (fun hHeld => ?_)
  clear HK
  try (simp only [Act.put, List.setIfInBounds_toArray, List.set_cons_zero, List.set_cons_succ])
  refine Go.Proofs.YtodiohoiekkodaaDoorW.PrintLast.pure_ (i := 4) (N := (some 33)) (v := ?_) (a' := ?_) #[true, true, true, true, true, false, false, false, false, false, false, false, false, false, false] rfl rfl (by kernel_rfl) (fun _ _ _ h => h) (Or.inl ⟨by rfl, ?_⟩) ?_ ?_
  rotate_left
  · intro w'; go_simp; try (with_reducible rfl)
  rotate_left
  · simp only [Act.put, List.setIfInBounds_toArray, List.set_cons_zero, List.set_cons_succ]; rfl
  refine Go.Proofs.YtodiohoiekkodaaDoorW.PrintLast.pure_ (i := 5) (N := (some 34)) (v := ?_) (a' := ?_) #[true, true, true, true, true, true, false, false, false, false, false, false, false, false, false] rfl rfl (by kernel_rfl) (fun _ _ _ h => h) (Or.inl ⟨by rfl, ?_⟩) ?_ ?_
  rotate_left
  · intro w'; go_simp; try (with_reducible rfl)
  rotate_left
  · simp only [Act.put, List.setIfInBounds_toArray, List.set_cons_zero, List.set_cons_succ]; rfl
  refine Go.Proofs.YtodiohoiekkodaaDoorW.PrintLast.pure_ (i := 6) (N := (some 35)) (v := ?_) (a' := ?_) #[true, true, true, true, true, true, true, false, false, false, false, false, false, false, false] rfl rfl (by kernel_rfl) (fun _ _ _ h => h) (Or.inl ⟨by rfl, ?_⟩) ?_ ?_
  rotate_left
  · intro w'; go_simp; try (with_reducible rfl)
  rotate_left
  · simp only [Act.put, List.setIfInBounds_toArray, List.set_cons_zero, List.set_cons_succ]; rfl
  refine Go.Proofs.YtodiohoiekkodaaDoorW.PrintLast.pure_ (i := 7) (N := (some 36)) (v := ?_) (a' := ?_) #[true, true, true, true, true, true, true, true, false, false, false, false, false, false, false] rfl rfl (by kernel_rfl) (fun _ _ _ h => h) (Or.inl ⟨by rfl, ?_⟩) ?_ ?_
  rotate_left
  · intro w'; go_simp; try (with_reducible rfl)
  rotate_left
  · simp only [Act.put, List.setIfInBounds_toArray, List.set_cons_zero, List.set_cons_succ]; rfl
  refine Go.Proofs.YtodiohoiekkodaaDoorW.PrintLast.pure_ (i := 8) (N := (some 37)) (v := ?_) (a' := ?_) #[true, true, true, true, true, true, true, true, true, false, false, false, false, false, false] rfl rfl (by kernel_rfl) (fun _ _ _ h => h) (Or.inl ⟨by rfl, ?_⟩) ?_ ?_
  rotate_left
  · intro w'; go_simp; try (with_reducible rfl)
  rotate_left
  · simp only [Act.put, List.setIfInBounds_toArray, List.set_cons_zero, List.set_cons_succ]; rfl
  refine Go.Proofs.YtodiohoiekkodaaDoorW.PrintLast.pure_ (i := 9) (N := (some 38)) (v := ?_) (a' := ?_) #[true, true, true, true, true, true, true, true, true, true, false, false, false, false, false] rfl rfl (by kernel_rfl) (fun _ _ _ h => h) (Or.inl ⟨by rfl, ?_⟩) ?_ ?_
  rotate_left
  · intro w'; go_simp; try (with_reducible rfl)
  rotate_left
  · simp only [Act.put, List.setIfInBounds_toArray, List.set_cons_zero, List.set_cons_succ]; rfl
  refine Go.Proofs.YtodiohoiekkodaaDoorW.PrintLast.pure_ (i := 10) (N := (some 39)) (v := ?_) (a' := ?_) #[true, true, true, true, true, true, true, true, true, true, true, false, false, false, false] rfl rfl (by kernel_rfl) (fun _ _ _ h => h) (Or.inl ⟨by rfl, ?_⟩) ?_ ?_
  rotate_left
  · intro w'; go_simp; try (with_reducible rfl)
  rotate_left
  · simp only [Act.put, List.setIfInBounds_toArray, List.set_cons_zero, List.set_cons_succ]; rfl
  refine Go.Proofs.YtodiohoiekkodaaDoorW.PrintLast.pure_ (i := 11) (N := (some 40)) (v := ?_) (a' := ?_) #[true, true, true, true, true, true, true, true, true, true, true, true, false, false, false] rfl rfl (by kernel_rfl) (fun _ _ _ h => h) (Or.inl ⟨by rfl, ?_⟩) ?_ ?_
  rotate_left
  · intro w'; go_simp; try (with_reducible rfl)
  rotate_left
  · simp only [Act.put, List.setIfInBounds_toArray, List.set_cons_zero, List.set_cons_succ]; rfl
  refine Go.Proofs.YtodiohoiekkodaaDoorW.PrintLast.pure_ (i := 12) (N := (some 41)) (v := ?_) (a' := ?_) #[true, true, true, true, true, true, true, true, true, true, true, true, true, false, false] rfl rfl (by kernel_rfl) (fun _ _ _ h => h) (Or.inl ⟨by rfl, ?_⟩) ?_ ?_
  rotate_left
  · intro w'; go_simp; try (with_reducible rfl)
  rotate_left
  · simp only [Act.put, List.setIfInBounds_toArray, List.set_cons_zero, List.set_cons_succ]; rfl
  refine Go.Proofs.YtodiohoiekkodaaDoorW.PrintLast.pure_ (i := 13) (N := (some 42)) (v := ?_) (a' := ?_) #[true, true, true, true, true, true, true, true, true, true, true, true, true, true, false] rfl rfl (by kernel_rfl) (fun _ _ _ h => h) (Or.inl ⟨by rfl, ?_⟩) ?_ ?_
  rotate_left
  · intro w'; go_simp; try (with_reducible rfl)
  rotate_left
  · simp only [Act.put, List.setIfInBounds_toArray, List.set_cons_zero, List.set_cons_succ]; rfl
  refine Go.Proofs.YtodiohoiekkodaaDoorW.PrintLast.pure_ (i := 14) (N := (some 43)) (v := ?_) (a' := ?_) #[true, true, true, true, true, true, true, true, true, true, true, true, true, true, true] rfl rfl (by kernel_rfl) (fun _ _ _ h => h) (Or.inl ⟨by rfl, ?_⟩) ?_ ?_
  rotate_left
  · intro w'; go_simp; try (with_reducible rfl)
  rotate_left
  · simp only [Act.put, List.setIfInBounds_toArray, List.set_cons_zero, List.set_cons_succ]; rfl
  refine Go.Proofs.YtodiohoiekkodaaDoorW.PrintLast.done_ (by kernel_rfl) ?_
  go_wp2_with fail
  refine (parse_any L _ (hG.below HB8.out) (by omega)).mono ?_
  rintro e w9 ⟨rfl, hb9⟩
  rw [HPV.out]
  have Q9 : Hid (XAt w.heap.size k sub t p keep (w9.alloc (.cells #[.int .i64 k, .int .i64 sub, .string t, .string p, .bool keep] 23))) := keepXH (keepXH Q8 hb9) ((Below.refl _ _).alloc (Nat.le_refl _) _)
  have HB9 : Hid (Below w.heap.size w (w9.alloc (.cells #[.int .i64 k, .int .i64 sub, .string t, .string p, .bool keep] 23))) := keepBH (keepBH HB8 hb9) ((Below.refl _ _).alloc (Nat.le_refl _) _)
  clear hb9
  have u0 := opc0 Q9.out
  have u1 := opc1 Q9.out
  have u2 := opc2 Q9.out
  have u3 := opc3 Q9.out
  have u4 := opc4 Q9.out
  go_wp2
  go_ret
  exact ⟨rfl, HB9.out⟩
end Go.Proofs.YtodiohoiekkodaaDoor.Op
end
