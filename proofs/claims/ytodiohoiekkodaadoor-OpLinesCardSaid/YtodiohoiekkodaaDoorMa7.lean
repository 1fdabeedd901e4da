/- The walks of op.fill: the kinds that have a subscriber. op.fill, whatever the words. The walk of op.Parse. -/
import Derived.Test.YtodiohoiekkodaaDoorMa6
import Derived.Deep.QuietTactic
import Derived.BigQuiet
import Derived.Test.YtodiohoiekkodaaDoorWLast
import Derived.Lib.SplitLaws
import Derived.Deep.DeepCutAuto
section
set_option linter.unusedVariables false
namespace Go.Proofs.YtodiohoiekkodaaDoor.Op
open Go.RowKit Go.Proofs.YtodiohoiekkodaaDoor.Bd Go.Proofs.YtodiohoiekkodaaDoor.Sp

set_option maxHeartbeats 8000000 in
set_option maxRecDepth 100000 in
theorem fill_0 (b : Nat) (k : Int) (keep : Bool) (A : Option Addr) (c : Nat) (w : World) (hx : XAt b k 0 ⟨#[]⟩ ⟨#[]⟩ keep w) (hk3 : (k == 3) = false) :
    Calls Tryd.prog 39 #[.pointer (some ⟨b, 0, none⟩), .slice A 0 c] w fun e w' => e = .returned (.bool false) ∧ Below w.heap.size w w' := by
  have c0 : w.cell? ⟨b, 0, none⟩ = some (.int .i64 k) := by rw [Lib.cell_of_heap hx]; rfl
  clear hx
  go_enter Tryd.func39, Tryd.ntmps39
  go_wp2
  go_ret
  exact ⟨rfl, Below.refl _ _⟩

set_option maxHeartbeats 8000000 in
set_option maxRecDepth 100000 in
theorem fill_bad (b g n c : Nat) (k : Int) (keep : Bool) (a0 : ByteArray) (w : World) (h0 : a0.size ≤ 100000) (hx : XAt b k 0 ⟨#[]⟩ ⟨#[]⟩ keep w) (hG : Glob w) (hg : g ≠ b)
    (hk3 : (k == 3) = false) (hn1 : 1 ≤ n) (d1 : w.cell? ⟨g, 1, none⟩ = some (.string a0)) (hv : ∀ v, Lib.atoiAll a0.data.toList ≠ .ok v) :
    Calls Tryd.prog 39 #[.pointer (some ⟨b, 0, none⟩), .slice (some ⟨g, 1, none⟩) n c] w fun e w' => e = .returned (.bool false) ∧ Only b w w' := by
  have c0 : w.cell? ⟨b, 0, none⟩ = some (.int .i64 k) := by rw [Lib.cell_of_heap hx]; rfl
  have hbl : b < w.heap.size := (Array.getElem?_eq_some_iff.1 hx).1
  have HX := Lib.hid hx
  clear hx
  have HV := Lib.hid hv
  clear hv
  have hn0 : ((n : Int) == 0) = false := by simp; omega
  go_enter Tryd.func39, Tryd.ntmps39
  go_wp2_with (go_at_call 64; refine (atoi_bad a0 _ hG h0 HV.out).mono ?_; rintro e w2 ⟨m, N, rfl, hb2⟩; have hx2 := (hb2.block b hbl).trans HX.out; have k1 : w2.cell? ⟨b, 1, none⟩ = some (.int .i64 0) := (by rw [Lib.cell_of_heap hx2]; rfl); have f1 : w2.frozen? ⟨b, 1, none⟩ = false := Lib.frozen_of_heap hx2 1; clear hx2)
  go_ret
  exact ⟨rfl, (Only.of_below hb2).setCell (p := ⟨b, 1, none⟩) rfl _⟩

set_option maxHeartbeats 8000000 in
set_option maxRecDepth 100000 in
theorem fill_4 (b g n c : Nat) (keep : Bool) (a0 : ByteArray) (v : Int) (w : World) (h0 : a0.size ≤ 100000) (hx : XAt b 4 0 ⟨#[]⟩ ⟨#[]⟩ keep w) (hg : g ≠ b)
    (hn1 : 1 ≤ n) (d1 : w.cell? ⟨g, 1, none⟩ = some (.string a0)) (hv : Lib.atoiAll a0.data.toList = .ok v) :
    Calls Tryd.prog 39 #[.pointer (some ⟨b, 0, none⟩), .slice (some ⟨g, 1, none⟩) n c] w fun e w' => e = .returned (.bool ((n : Int) == 1)) ∧ XAt b 4 v ⟨#[]⟩ ⟨#[]⟩ keep w' ∧ Only b w w' := by
  have c0 : w.cell? ⟨b, 0, none⟩ = some (.int .i64 4) := by rw [Lib.cell_of_heap hx]; rfl
  have hbl : b < w.heap.size := (Array.getElem?_eq_some_iff.1 hx).1
  have HX := Lib.hid hx
  clear hx
  have HV := Lib.hid hv
  clear hv
  have hn0 : ((n : Int) == 0) = false := by simp; omega
  go_enter Tryd.func39, Tryd.ntmps39
  go_wp2_with (go_at_call 64; refine (atoi_ok a0 v _ h0 HV.out).mono ?_; rintro e w2 ⟨rfl, hb2⟩; have hx2 := (hb2.block b hbl).trans HX.out; have k0 : w2.cell? ⟨b, 0, none⟩ = some (.int .i64 4) := (by rw [Lib.cell_of_heap hx2]; rfl); have k1 : w2.cell? ⟨b, 1, none⟩ = some (.int .i64 0) := (by rw [Lib.cell_of_heap hx2]; rfl); have f1 : w2.frozen? ⟨b, 1, none⟩ = false := Lib.frozen_of_heap hx2 1; have HX2 := Lib.hid hx2; clear hx2)
  go_ret
  refine ⟨rfl, ?_, (Only.of_below hb2).setCell (p := ⟨b, 1, none⟩) rfl _⟩
  simp only [XAt, World.setCell, Array.getElem?_modify, if_true, HX2.out]; rfl

set_option maxHeartbeats 8000000 in
set_option maxRecDepth 100000 in
theorem fill_5 (b g n c : Nat) (keep : Bool) (a0 : ByteArray) (v : Int) (w : World) (h0 : a0.size ≤ 100000) (hx : XAt b 5 0 ⟨#[]⟩ ⟨#[]⟩ keep w) (hg : g ≠ b)
    (hn1 : 1 ≤ n) (d1 : w.cell? ⟨g, 1, none⟩ = some (.string a0)) (hv : Lib.atoiAll a0.data.toList = .ok v) :
    Calls Tryd.prog 39 #[.pointer (some ⟨b, 0, none⟩), .slice (some ⟨g, 1, none⟩) n c] w fun e w' => e = .returned (.bool ((n : Int) == 1)) ∧ XAt b 5 v ⟨#[]⟩ ⟨#[]⟩ keep w' ∧ Only b w w' := by
  have c0 : w.cell? ⟨b, 0, none⟩ = some (.int .i64 5) := by rw [Lib.cell_of_heap hx]; rfl
  have hbl : b < w.heap.size := (Array.getElem?_eq_some_iff.1 hx).1
  have HX := Lib.hid hx
  clear hx
  have HV := Lib.hid hv
  clear hv
  have hn0 : ((n : Int) == 0) = false := by simp; omega
  go_enter Tryd.func39, Tryd.ntmps39
  go_wp2_with (go_at_call 64; refine (atoi_ok a0 v _ h0 HV.out).mono ?_; rintro e w2 ⟨rfl, hb2⟩; have hx2 := (hb2.block b hbl).trans HX.out; have k0 : w2.cell? ⟨b, 0, none⟩ = some (.int .i64 5) := (by rw [Lib.cell_of_heap hx2]; rfl); have k1 : w2.cell? ⟨b, 1, none⟩ = some (.int .i64 0) := (by rw [Lib.cell_of_heap hx2]; rfl); have f1 : w2.frozen? ⟨b, 1, none⟩ = false := Lib.frozen_of_heap hx2 1; have HX2 := Lib.hid hx2; clear hx2)
  go_ret
  refine ⟨rfl, ?_, (Only.of_below hb2).setCell (p := ⟨b, 1, none⟩) rfl _⟩
  simp only [XAt, World.setCell, Array.getElem?_modify, if_true, HX2.out]; rfl

set_option maxHeartbeats 8000000 in
set_option maxRecDepth 100000 in
theorem fill_12_len (b g n c : Nat) (k : Int) (keep : Bool) (a0 : ByteArray) (v : Int) (w : World) (h0 : a0.size ≤ 100000) (hx : XAt b k 0 ⟨#[]⟩ ⟨#[]⟩ keep w) (hg : g ≠ b)
    (hk3 : (k == 3) = false) (hn1 : 1 ≤ n) (d1 : w.cell? ⟨g, 1, none⟩ = some (.string a0)) (hk4 : (k == 4) = false) (hk5 : (k == 5) = false) (hv : Lib.atoiAll a0.data.toList = .ok v) (hn2 : ((n : Int) == 2) = false) :
    Calls Tryd.prog 39 #[.pointer (some ⟨b, 0, none⟩), .slice (some ⟨g, 1, none⟩) n c] w fun e w' => e = .returned (.bool false) ∧ Only b w w' := by
  have c0 : w.cell? ⟨b, 0, none⟩ = some (.int .i64 k) := by rw [Lib.cell_of_heap hx]; rfl
  have hbl : b < w.heap.size := (Array.getElem?_eq_some_iff.1 hx).1
  have HX := Lib.hid hx
  clear hx
  have HV := Lib.hid hv
  clear hv
  have hn0 : ((n : Int) == 0) = false := by simp; omega
  go_enter Tryd.func39, Tryd.ntmps39
  go_wp2_with (go_at_call 64; refine (atoi_ok a0 v _ h0 HV.out).mono ?_; rintro e w2 ⟨rfl, hb2⟩; have hx2 := (hb2.block b hbl).trans HX.out; have k0 : w2.cell? ⟨b, 0, none⟩ = some (.int .i64 k) := (by rw [Lib.cell_of_heap hx2]; rfl); have k1 : w2.cell? ⟨b, 1, none⟩ = some (.int .i64 0) := (by rw [Lib.cell_of_heap hx2]; rfl); have f1 : w2.frozen? ⟨b, 1, none⟩ = false := Lib.frozen_of_heap hx2 1; have HX2 := Lib.hid hx2; clear hx2)
  go_quiet (fail)
  go_wp2
  go_ret
  have ho := (Only.of_below (b := b) hb2).setCell (p := ⟨b, 1, none⟩) rfl (.int .i64 v)
  exact ⟨rfl, ⟨ho.os, ho.tape, ho.output, ho.size, ho.block⟩⟩

set_option maxHeartbeats 8000000 in
set_option maxRecDepth 100000 in
theorem fill_12 (b g c : Nat) (k : Int) (keep : Bool) (a0 a2 : ByteArray) (v : Int) (w : World) (h0 : a0.size ≤ 100000) (hG : Glob w) (hb8 : 8 ≤ b) (hx : XAt b k 0 ⟨#[]⟩ ⟨#[]⟩ keep w) (hg : g ≠ b)
    (hk3 : (k == 3) = false) (d1 : w.cell? ⟨g, 1, none⟩ = some (.string a0)) (h2 : a2.size ≤ 100000) (d2 : w.cell? ⟨g, 2, none⟩ = some (.string a2)) (hk4 : (k == 4) = false) (hk5 : (k == 5) = false) (hv : Lib.atoiAll a0.data.toList = .ok v) :
    Calls Tryd.prog 39 #[.pointer (some ⟨b, 0, none⟩), .slice (some ⟨g, 1, none⟩) 2 c] w fun e w' => e = .returned (.bool (unwO a2)) ∧ XAt b k v (unwT a2) ⟨#[]⟩ keep w' ∧ Only b w w' := by
  have c0 : w.cell? ⟨b, 0, none⟩ = some (.int .i64 k) := by rw [Lib.cell_of_heap hx]; rfl
  have hbl : b < w.heap.size := (Array.getElem?_eq_some_iff.1 hx).1
  have HX := Lib.hid hx
  clear hx
  have HV := Lib.hid hv
  clear hv
  go_enter Tryd.func39, Tryd.ntmps39
  go_wp2_with (go_at_call 64; refine (atoi_ok a0 v _ h0 HV.out).mono ?_; rintro e w2 ⟨rfl, hb2⟩; have hx2 := (hb2.block b hbl).trans HX.out; have k0 : w2.cell? ⟨b, 0, none⟩ = some (.int .i64 k) := (by rw [Lib.cell_of_heap hx2]; rfl); have k1 : w2.cell? ⟨b, 1, none⟩ = some (.int .i64 0) := (by rw [Lib.cell_of_heap hx2]; rfl); have f1 : w2.frozen? ⟨b, 1, none⟩ = false := Lib.frozen_of_heap hx2 1; have HX2 := Lib.hid hx2; clear hx2)
  have hset : (w2.setCell ⟨b, 1, none⟩ (.int .i64 v)).heap[b]? = some (.cells #[.int .i64 k, .int .i64 v, .string ⟨#[]⟩, .string ⟨#[]⟩, .bool keep] 23 (0, 0)) := by
    simp only [World.setCell, Array.getElem?_modify, if_true, HX2.out]; rfl
  have HS := Lib.hid hset
  have ho2 := (Only.of_below (b := b) hb2).setCell (p := ⟨b, 1, none⟩) rfl (.int .i64 v)
  have e2 := ho2.cell (p := ⟨g, 2, none⟩) hg d2
  clear hset
  refine Go.Proofs.YtodiohoiekkodaaDoorW.PrintLast.start_ (n := 14) (S := (fun w' => w'.cell? ⟨g, 2, none⟩ = some (.string a2))) (ds := []) #[false, false, false, false, false, false, false, false, false, false, false, false, false, false] (by kernel_rfl) rfl rfl e2 (fun hHeld => ?_)
  refine Go.Proofs.YtodiohoiekkodaaDoorW.PrintLast.pure_ (i := 0) (N := (some 67)) (v := ?_) (a' := ?_) #[true, false, false, false, false, false, false, false, false, false, false, false, false, false] rfl rfl (by kernel_rfl) (fun _ _ _ h => h) (Or.inl ⟨by rfl, ?_⟩) ?_ ?_
  rotate_left
  · intro w'; go_simp; try (with_reducible rfl)
  rotate_left
  · simp only [Act.put, List.setIfInBounds_toArray, List.set_cons_zero, List.set_cons_succ]; rfl
  refine Go.Proofs.YtodiohoiekkodaaDoorW.PrintLast.pure_ (i := 1) (N := (some 68)) (v := ?_) (a' := ?_) #[true, true, false, false, false, false, false, false, false, false, false, false, false, false] rfl rfl (by kernel_rfl) (fun _ _ _ h => h) (Or.inl ⟨by rfl, ?_⟩) ?_ ?_
  rotate_left
  · intro w'; go_simp; try (with_reducible rfl)
  rotate_left
  · simp only [Act.put, List.setIfInBounds_toArray, List.set_cons_zero, List.set_cons_succ]; rfl
  refine Go.Proofs.YtodiohoiekkodaaDoorW.PrintLast.pure_ (i := 2) (N := (some 69)) (v := ?_) (a' := ?_) #[true, true, true, false, false, false, false, false, false, false, false, false, false, false] rfl rfl (by kernel_rfl) (fun _ _ _ h => h) (Or.inl ⟨by rfl, ?_⟩) ?_ ?_
  rotate_left
  · intro w'; go_simp; try (with_reducible rfl)
  rotate_left
  · simp only [Act.put, List.setIfInBounds_toArray, List.set_cons_zero, List.set_cons_succ]; rfl
  refine Go.Proofs.YtodiohoiekkodaaDoorW.PrintLast.pure_ (i := 3) (N := (some 70)) (v := ?_) (a' := ?_) #[true, true, true, true, false, false, false, false, false, false, false, false, false, false] rfl rfl (by kernel_rfl) (fun _ _ _ h => h) (Or.inl ⟨by rfl, ?_⟩) ?_ ?_
  rotate_left
  · intro w'; go_simp; try (with_reducible rfl)
  rotate_left
  · simp only [Act.put, List.setIfInBounds_toArray, List.set_cons_zero, List.set_cons_succ]; rfl
  refine Go.Proofs.YtodiohoiekkodaaDoorW.PrintLast.pure_ (i := 4) (N := (some 71)) (v := ?_) (a' := ?_) #[true, true, true, true, true, false, false, false, false, false, false, false, false, false] rfl rfl (by kernel_rfl) (fun _ _ _ h => h) (Or.inl ⟨by rfl, ?_⟩) ?_ ?_
  rotate_left
  · intro w'; go_simp; try (with_reducible rfl)
  rotate_left
  · simp only [Act.put, List.setIfInBounds_toArray, List.set_cons_zero, List.set_cons_succ]; rfl
  refine Go.Proofs.YtodiohoiekkodaaDoorW.PrintLast.pure_ (i := 5) (N := (some 72)) (v := ?_) (a' := ?_) #[true, true, true, true, true, true, false, false, false, false, false, false, false, false] rfl rfl (by kernel_rfl) (fun _ _ _ h => h) (Or.inl ⟨by rfl, ?_⟩) ?_ ?_
  rotate_left
  · intro w'; go_simp; try (with_reducible rfl)
  rotate_left
  · simp only [Act.put, List.setIfInBounds_toArray, List.set_cons_zero, List.set_cons_succ]; rfl
  refine Go.Proofs.YtodiohoiekkodaaDoorW.PrintLast.pure_ (i := 6) (N := (some 73)) (v := ?_) (a' := ?_) #[true, true, true, true, true, true, true, false, false, false, false, false, false, false] rfl rfl (by kernel_rfl) (fun _ _ _ h => h) (Or.inl ⟨by rfl, ?_⟩) ?_ ?_
  rotate_left
  · intro w'; go_simp; try (with_reducible rfl)
  rotate_left
  · simp only [Act.put, List.setIfInBounds_toArray, List.set_cons_zero, List.set_cons_succ]; rfl
  refine Go.Proofs.YtodiohoiekkodaaDoorW.PrintLast.pure_ (i := 7) (N := (some 74)) (v := ?_) (a' := ?_) #[true, true, true, true, true, true, true, true, false, false, false, false, false, false] rfl rfl (by kernel_rfl) (fun _ _ _ h => h) (Or.inl ⟨by rfl, ?_⟩) ?_ ?_
  rotate_left
  · intro w'; go_simp; try (with_reducible rfl)
  rotate_left
  · simp only [Act.put, List.setIfInBounds_toArray, List.set_cons_zero, List.set_cons_succ]; rfl
  refine Go.Proofs.YtodiohoiekkodaaDoorW.PrintLast.pure_ (i := 8) (N := (some 75)) (v := ?_) (a' := ?_) #[true, true, true, true, true, true, true, true, true, false, false, false, false, false] rfl rfl (by kernel_rfl) (fun _ _ _ h => h) (Or.inl ⟨by rfl, ?_⟩) ?_ ?_
  rotate_left
  · intro w'; go_simp; try (with_reducible rfl)
  rotate_left
  · simp only [Act.put, List.setIfInBounds_toArray, List.set_cons_zero, List.set_cons_succ]; rfl
  refine Go.Proofs.YtodiohoiekkodaaDoorW.PrintLast.pure_ (i := 9) (N := (some 76)) (v := ?_) (a' := ?_) #[true, true, true, true, true, true, true, true, true, true, false, false, false, false] rfl rfl (by kernel_rfl) (fun _ _ _ h => h) (Or.inl ⟨by rfl, ?_⟩) ?_ ?_
  rotate_left
  · intro w'; go_simp; try (with_reducible rfl)
  rotate_left
  · simp only [Act.put, List.setIfInBounds_toArray, List.set_cons_zero, List.set_cons_succ]; rfl
  refine Go.Proofs.YtodiohoiekkodaaDoorW.PrintLast.take_ (i := 10) (N := (some 77)) (v := ?_) (a' := ?_) #[true, true, true, true, true, true, true, true, true, true, true, false, false, false] rfl rfl (by kernel_rfl) (fun _ _ _ h => h) (Or.inl ⟨by rfl, ?_⟩) hHeld ?_ ?_
  rotate_left
  · intro w' hh; (try obtain ⟨s0, s1, s2, s3, s4, s5, s6, s7⟩ := hh); (try obtain ⟨s0, s1, s2, s3, s4, s5, s6⟩ := hh); (try obtain ⟨s0, s1, s2, s3, s4, s5⟩ := hh); (try obtain ⟨s0, s1, s2, s3, s4⟩ := hh); (try obtain ⟨s0, s1, s2, s3⟩ := hh); (try obtain ⟨s0, s1, s2⟩ := hh); (try obtain ⟨s0, s1⟩ := hh); go_simp; try (with_reducible rfl)
  rotate_left
  · simp only [Act.put, List.setIfInBounds_toArray, List.set_cons_zero, List.set_cons_succ]; rfl
  refine Go.Proofs.YtodiohoiekkodaaDoorW.PrintLast.one_ (i := 11) (N := (some 78)) #[true, true, true, true, true, true, true, true, true, true, true, true, false, false] rfl rfl (by kernel_rfl) (by decide) (fun K hK => ?_)
  have HK := hK
  clear hK hHeld
  go_simp
  refine (fill1_x b 2 #[.int .i64 k, .int .i64 v, .string ⟨#[]⟩, .string ⟨#[]⟩, .bool keep] a2 _ (hG.on8 ho2 hb8).drew h2 HS.out (by simp)).mono ?_
  rintro e w4 ⟨rfl, hx4, ho4⟩
  have ho5 := ho2.drew.trans ho4
  have f2' := ho5.cell (p := ⟨g, 2, none⟩) hg d2
  have HX4 := Lib.hid hx4
  clear ho4 hx4
  refine HK.out _ _ (f2') (fun hHeld => ?_)
  clear HK
  try (simp only [Act.put, List.setIfInBounds_toArray, List.set_cons_zero, List.set_cons_succ])
  refine Go.Proofs.YtodiohoiekkodaaDoorW.PrintLast.pure_ (i := 12) (N := (some 79)) (v := ?_) (a' := ?_) #[true, true, true, true, true, true, true, true, true, true, true, true, true, false] rfl rfl (by kernel_rfl) (fun _ _ _ h => h) (Or.inl ⟨by rfl, ?_⟩) ?_ ?_
  rotate_left
  · intro w'; go_simp; try (with_reducible rfl)
  rotate_left
  · simp only [Act.put, List.setIfInBounds_toArray, List.set_cons_zero, List.set_cons_succ]; rfl
  refine Go.Proofs.YtodiohoiekkodaaDoorW.PrintLast.pure_ (i := 13) (N := (some 4)) (v := ?_) (a' := ?_) #[true, true, true, true, true, true, true, true, true, true, true, true, true, true] rfl rfl (by kernel_rfl) (fun _ _ _ h => h) (Or.inl ⟨by rfl, ?_⟩) ?_ ?_
  rotate_left
  · intro w'; go_simp; try (with_reducible rfl)
  rotate_left
  · simp only [Act.put, List.setIfInBounds_toArray, List.set_cons_zero, List.set_cons_succ]; rfl
  refine Go.Proofs.YtodiohoiekkodaaDoorW.PrintLast.done_ (by kernel_rfl) ?_
  go_wp2
  go_ret
  exact ⟨rfl, HX4.out, ho5⟩

end Go.Proofs.YtodiohoiekkodaaDoor.Op
end

section
set_option linter.unusedVariables false
namespace Go.Proofs.YtodiohoiekkodaaDoor.Op
open Go.RowKit Go.Proofs.YtodiohoiekkodaaDoor.Bd Go.Proofs.YtodiohoiekkodaaDoor.Sp

/-- What fill fills from words, if they are right. -/
def fillR (k : Int) (ws : List ByteArray) : Option (Int × ByteArray × ByteArray) :=
  if k = 3 then
    match ws with
    | [a, b] => if unwO a = true ∧ unwO b = true then some (0, unwT a, unwT b) else none
    | _ => none
  else match ws with
    | [] => none
    | n :: r => match Lib.atoiAll n.data.toList with
      | .ok v =>
        if k = 4 ∨ k = 5 then (if r = [] then some (v, ⟨#[]⟩, ⟨#[]⟩) else none)
        else match r with
          | [a] => if unwO a = true then some (v, unwT a, ⟨#[]⟩) else none
          | _ => none
      | _ => none
def FillP (b : Nat) (k : Int) (keep : Bool) (w : World) (r : Option (Int × ByteArray × ByteArray)) (e : Ending) (w' : World) : Prop := match r with
  | some (s, t, p) => e = .returned (.bool true) ∧ XAt b k s t p keep w' ∧ Only b w w'
  | none => e = .returned (.bool false) ∧ Only b w w'

theorem fill_any (b g m c : Nat) (k : Int) (keep : Bool) (A : Option Addr) (ws : List ByteArray) (w : World) (hG : Glob w) (hb8 : 8 ≤ b) (hk : k = 1 ∨ k = 2 ∨ k = 3 ∨ k = 4 ∨ k = 5) (hx : XAt b k 0 ⟨#[]⟩ ⟨#[]⟩ keep w) (hg : g ≠ b)
    (hm : ws.length = m) (hA : 0 < m → A = some ⟨g, 1, none⟩) (hd : ∀ j x, ws[j]? = some x → w.cell? ⟨g, 1 + j, none⟩ = some (.string x)) (hsz : ∀ x ∈ ws, x.size ≤ 100000) :
    Calls Tryd.prog 39 #[.pointer (some ⟨b, 0, none⟩), .slice A m c] w (FillP b k keep w (fillR k ws)) := by
  by_cases h3 : k = 3
  · subst h3
    match ws, hm, hd, hsz with
    | [a1, a2], hm, hd, hsz =>
      obtain rfl : m = 2 := by simpa using hm.symm
      obtain rfl := hA (by omega)
      have d1 := hd 0 a1 rfl
      have d2 := hd 1 a2 rfl
      have s1 := hsz a1 (by simp)
      have s2 := hsz a2 (by simp)
      cases hu : unwO a1 with
      | false =>
        have e : fillR 3 [a1, a2] = none := by simp [fillR, hu]
        rw [e]
        exact fill_3_no b g keep a1 a2 c w hG s1 hx hg d1 d2 hu
      | true =>
        cases hv : unwO a2 with
        | false =>
          have e : fillR 3 [a1, a2] = none := by simp [fillR, hv]
          rw [e]
          refine (fill_3_two b g keep a1 a2 c w hG hb8 s1 s2 hx hg d1 d2 hu).mono ?_
          rintro e w' ⟨rfl, _, ho⟩
          exact ⟨by rw [hv], ho⟩
        | true =>
          have e : fillR 3 [a1, a2] = some (0, unwT a1, unwT a2) := by simp [fillR, hu, hv]
          rw [e]
          refine (fill_3_two b g keep a1 a2 c w hG hb8 s1 s2 hx hg d1 d2 hu).mono ?_
          rintro e w' ⟨rfl, hx', ho⟩
          exact ⟨by rw [hv], hx', ho⟩
    | [], hm, hd, hsz =>
      have e : fillR 3 ([] : List ByteArray) = none := rfl
      rw [e]
      refine (fill_3_len b keep A m c w hx (by simp at hm; subst hm; rfl)).mono ?_
      rintro e w' ⟨rfl, hb⟩
      exact ⟨rfl, Only.of_below hb⟩
    | [a], hm, hd, hsz =>
      have e : fillR 3 [a] = none := rfl
      rw [e]
      refine (fill_3_len b keep A m c w hx (by simp at hm; subst hm; rfl)).mono ?_
      rintro e w' ⟨rfl, hb⟩
      exact ⟨rfl, Only.of_below hb⟩
    | a :: a' :: a'' :: r, hm, hd, hsz =>
      have e : fillR 3 (a :: a' :: a'' :: r) = none := rfl
      rw [e]
      refine (fill_3_len b keep A m c w hx (by simp at hm; simp; omega)).mono ?_
      rintro e w' ⟨rfl, hb⟩
      exact ⟨rfl, Only.of_below hb⟩
  have hk3 : (k == 3) = false := by simp [h3]
  match ws, hm, hd, hsz with
  | [], hm, hd, hsz =>
    have e : fillR k [] = none := by simp [fillR, h3]
    rw [e]
    obtain rfl : m = 0 := by simpa using hm.symm
    refine (fill_0 b k keep A c w hx hk3).mono ?_
    rintro e w' ⟨rfl, hb⟩
    exact ⟨rfl, Only.of_below hb⟩
  | a0 :: r, hm, hd, hsz =>
    have hm1 : 1 ≤ m := by simp at hm; omega
    obtain rfl := hA (by omega)
    have d1 := hd 0 a0 rfl
    have s1 := hsz a0 (by simp)
    have bad : (∀ v, Lib.atoiAll a0.data.toList ≠ .ok v) → Calls Tryd.prog 39 #[.pointer (some ⟨b, 0, none⟩), .slice (some ⟨g, 1, none⟩) m c] w (FillP b k keep w (fillR k (a0 :: r))) := by
      intro hv
      have e : fillR k (a0 :: r) = none := by
        unfold fillR
        rw [if_neg h3]
        cases hx' : Lib.atoiAll a0.data.toList with
        | ok v => exact absurd hx' (hv v)
        | _ => simp only
      rw [e]
      exact fill_bad b g m c k keep a0 w s1 hx hG hg hk3 hm1 d1 hv
    cases hv : Lib.atoiAll a0.data.toList with
    | range => exact bad (fun v h => by rw [hv] at h; cases h)
    | ok v =>
      clear bad
      by_cases h45 : k = 4 ∨ k = 5
      · have hf : Calls Tryd.prog 39 #[.pointer (some ⟨b, 0, none⟩), .slice (some ⟨g, 1, none⟩) m c] w fun e w' => e = .returned (.bool ((m : Int) == 1)) ∧ XAt b k v ⟨#[]⟩ ⟨#[]⟩ keep w' ∧ Only b w w' := by
          rcases h45 with rfl | rfl
          · exact fill_4 b g m c keep a0 v w s1 hx hg hm1 d1 hv
          · exact fill_5 b g m c keep a0 v w s1 hx hg hm1 d1 hv
        by_cases hr : r = []
        · subst hr
          have e : fillR k [a0] = some (v, ⟨#[]⟩, ⟨#[]⟩) := by unfold fillR; rw [if_neg h3]; simp only [hv, if_pos h45]; rfl
          rw [e]
          refine hf.mono ?_
          rintro e w' ⟨rfl, h1, h2⟩
          exact ⟨by simp at hm; subst hm; rfl, h1, h2⟩
        · have e : fillR k (a0 :: r) = none := by unfold fillR; rw [if_neg h3]; simp only [hv, if_pos h45, if_neg hr]
          rw [e]
          refine hf.mono ?_
          rintro e w' ⟨rfl, h1, h2⟩
          have hl : r.length ≠ 0 := fun h => hr (List.eq_nil_of_length_eq_zero h)
          exact ⟨by
            have : ((m : Int) == 1) = false := by simp at hm; simp; omega
            rw [this], h2⟩
      · have hk4 : (k == 4) = false := by simp; exact fun h => h45 (.inl h)
        have hk5 : (k == 5) = false := by simp; exact fun h => h45 (.inr h)
        match r, hm, hd, hsz with
        | [a2], hm, hd, hsz =>
          obtain rfl : m = 2 := by simpa using hm.symm
          have d2 := hd 1 a2 rfl
          have s2 := hsz a2 (by simp)
          refine (fill_12 b g c k keep a0 a2 v w s1 hG hb8 hx hg hk3 d1 s2 d2 hk4 hk5 hv).mono ?_
          rintro e w' ⟨rfl, h1, h2⟩
          cases hu : unwO a2 with
          | true =>
            have e : fillR k [a0, a2] = some (v, unwT a2, ⟨#[]⟩) := by unfold fillR; rw [if_neg h3]; simp only [hv, if_neg h45, hu]; rfl
            rw [e]; exact ⟨rfl, h1, h2⟩
          | false =>
            have e : fillR k [a0, a2] = none := by unfold fillR; rw [if_neg h3]; simp only [hv, if_neg h45, hu]; rfl
            rw [e]; exact ⟨rfl, h2⟩
        | [], hm, hd, hsz =>
          have e : fillR k [a0] = none := by unfold fillR; rw [if_neg h3]; simp only [hv, if_neg h45]
          rw [e]
          exact fill_12_len b g m c k keep a0 v w s1 hx hg hk3 hm1 d1 hk4 hk5 hv (by simp at hm; subst hm; rfl)
        | a2 :: a3 :: r', hm, hd, hsz =>
          have e : fillR k (a0 :: a2 :: a3 :: r') = none := by unfold fillR; rw [if_neg h3]; simp only [hv, if_neg h45]
          rw [e]
          exact fill_12_len b g m c k keep a0 v w s1 hx hg hk3 hm1 d1 hk4 hk5 hv (by simp at hm; simp; omega)
    | _ => exact bad (fun v h => by rw [hv] at h; cases h)
end Go.Proofs.YtodiohoiekkodaaDoor.Op
end

section
set_option linter.unusedVariables false
namespace Go.Proofs.YtodiohoiekkodaaDoor.Op
open Go.RowKit Go.Proofs.YtodiohoiekkodaaDoor.Bd Go.Proofs.YtodiohoiekkodaaDoor.Sp

def pickV (a : Option (Nat × Value)) (z : Value) : Value := match a with
  | some (_, v) => v
  | none => z
theorem run_lookup {P : Program} {w : World} {mty kt et : TypeId} {r clock : Nat} {es : Array MapEntry} {s : ByteArray} {a : Option (Nat × Value)} {z : Value} (hm : P.underlying mty = some (.map kt et)) (hk : P.underlying kt = some .string)
    (hb : w.heap[r]? = some (.map es clock)) (h : Instr.findNow .string (.string s) es.toList 0 = some a) (hz : (zeroValue et).run P w = .ok z w) :
    (Instr.lookup mty (.map (some r)) (.string s) true).run P w = .ok (.tuple #[pickV a z, .bool a.isSome]) w := by
  have h1 : (Instr.checkKey es.isEmpty 10000 kt (.string s)).run P w = .ok () w := MapKept.run_checkKey hk (by simp [MapKept.IsKey]) _ 9999
  cases a with
  | none => simp only [Instr.lookup, Sem.run_bind, run_underlying hm, MapKept.run_getObj_map hb, h1, MapKept.run_findKey hk h, hz, Result.andThen, Sem.run_pure]; rfl
  | some p => simp only [Instr.lookup, Sem.run_bind, run_underlying hm, MapKept.run_getObj_map hb, h1, MapKept.run_findKey hk h, Result.andThen, Sem.run_pure]; rfl

/-- The kind of a word; 0: there is none. -/
def kindK (w : ByteArray) : Int := if w = kSub then 1 else if w = kUnsub then 2 else if w = kPub ∨ w = kKeep then 3 else if w = kPoll then 4 else if w = kDrops then 5 else 0
def kindKeep (w : ByteArray) : Bool := decide (w = kKeep)
def kindOK (w : ByteArray) : Bool := decide (kindK w ≠ 0)

theorem find_cons (s x : ByteArray) (v : Value) (b i : Nat) (r : List MapEntry) : Instr.findNow .string (.string s) (⟨.string x, v, b⟩ :: r) i = if s = x then some (some (i, v)) else Instr.findNow .string (.string s) r (i + 1) := by
  by_cases h : s = x
  · subst h
    have e : (s == s) = true := (MapKept.bytes_beq _ _).2 rfl
    simp only [Instr.findNow, Instr.sameNow, e, if_true]
  · have e : (s == x) = false := by rw [Bool.eq_false_iff]; exact fun hh => h ((MapKept.bytes_beq _ _).1 hh)
    simp only [Instr.findNow, Instr.sameNow, e, if_neg h]

theorem findNow_names (s : ByteArray) : ∃ a, Instr.findNow .string (.string s) namesE.toList 0 = some a ∧ a.isSome = kindOK s ∧ pickV a (opAgg 0 false) = opAgg (kindK s) (kindKeep s) := by
  have e : namesE.toList = [⟨.string kSub, opAgg 1 false, 0⟩, ⟨.string kUnsub, opAgg 2 false, 1⟩, ⟨.string kPub, opAgg 3 false, 2⟩, ⟨.string kKeep, opAgg 3 true, 3⟩, ⟨.string kPoll, opAgg 4 false, 4⟩, ⟨.string kDrops, opAgg 5 false, 5⟩] := rfl
  rw [e, find_cons]
  by_cases h1 : s = kSub
  · subst h1; rw [if_pos rfl]; exact ⟨_, rfl, by decide, rfl⟩
  rw [if_neg h1, find_cons]
  by_cases h2 : s = kUnsub
  · subst h2; rw [if_pos rfl]; exact ⟨_, rfl, by decide, rfl⟩
  rw [if_neg h2, find_cons]
  by_cases h3 : s = kPub
  · subst h3; rw [if_pos rfl]; exact ⟨_, rfl, by decide, rfl⟩
  rw [if_neg h3, find_cons]
  by_cases h4 : s = kKeep
  · subst h4; rw [if_pos rfl]; exact ⟨_, rfl, by decide, rfl⟩
  rw [if_neg h4, find_cons]
  by_cases h5 : s = kPoll
  · subst h5; rw [if_pos rfl]; exact ⟨_, rfl, by decide, rfl⟩
  rw [if_neg h5, find_cons]
  by_cases h6 : s = kDrops
  · subst h6; rw [if_pos rfl]; exact ⟨_, rfl, by decide, rfl⟩
  rw [if_neg h6]
  refine ⟨none, rfl, ?_, ?_⟩ <;> simp [pickV, kindOK, kindK, kindKeep, h1, h2, h3, h4, h5, h6]

theorem run_zeroOp (w : World) : (zeroValue 23).run Tryd.prog w = .ok (opAgg 0 false) w := Tryd.zeroValue23 w
theorem run_lookup_names (w : World) (r : Nat) (s : ByteArray) (hb : w.heap[r]? = some (.map namesE 6)) :
    (Instr.lookup 65 (.map (some r)) (.string s) true).run Tryd.prog w = .ok (.tuple #[opAgg (kindK s) (kindKeep s), .bool (kindOK s)]) w := by
  obtain ⟨a, h1, h2, h3⟩ := findNow_names s
  rw [run_lookup Tryd.underlying65 Tryd.underlying9 hb h1 (run_zeroOp w), h3, h2]
end Go.Proofs.YtodiohoiekkodaaDoor.Op
end
