/- '==' of operations, messages and answers as one Bool. The walks of op.told, op.Plain. The walks of op.Plain where there is a word: what parts from its line. -/
import Derived.Test.YtodiohoiekkodaaDoorProg
import Derived.Test.YtodiohoiekkodaaDoorWEqStruct
import Derived.WalkKit
import Derived.Test.YtodiohoiekkodaaDoorMa3
import Derived.Deep.RegionWith
import Derived.Deep.RegionHeld3
section
namespace Go.Proofs.YtodiohoiekkodaaDoor
open Go.RowKit Go.Proofs.YtodiohoiekkodaaDoorW.PrintWords
theorem eqOp (d : Nat) (w : World) (x0 y0 : Int) (x1 y1 : Int) (x2 y2 : ByteArray) (x3 y3 : ByteArray) (x4 y4 : Bool) :
    (Op.equalIn (d + 2) 23 (.agg #[.int .i64 x0, .int .i64 x1, .string x2, .string x3, .bool x4]) (.agg #[.int .i64 y0, .int .i64 y1, .string y2, .string y3, .bool y4])).run Tryd.prog w = .ok (x0 == y0 && (x1 == y1 && (x2.toList == y2.toList && (x3.toList == y3.toList && (x4 == y4))))) w := by
  refine eqA_of Tryd.underlying23 (by kernel_rfl) ?_
  refine eqf_cons (by rfl) (by go_simp; rfl) (by go_simp; rfl) (by go_simp) ?_
  refine eqf_cons (by rfl) (by go_simp; rfl) (by go_simp; rfl) (by go_simp) ?_
  refine eqf_cons (by rfl) (by go_simp; rfl) (by go_simp; rfl) (by go_simp) ?_
  refine eqf_cons (by rfl) (by go_simp; rfl) (by go_simp; rfl) (by go_simp) ?_
  exact eqf_last (by rfl) (by go_simp; rfl) (by go_simp; rfl) (by go_simp)
theorem eqMsg (d : Nat) (w : World) (x0 y0 : ByteArray) (x1 y1 : ByteArray) (x2 y2 : Bool) :
    (Op.equalIn (d + 2) 37 (.agg #[.string x0, .string x1, .bool x2]) (.agg #[.string y0, .string y1, .bool y2])).run Tryd.prog w = .ok (x0.toList == y0.toList && (x1.toList == y1.toList && (x2 == y2))) w := by
  refine eqA_of Tryd.underlying37 (by kernel_rfl) ?_
  refine eqf_cons (by rfl) (by go_simp; rfl) (by go_simp; rfl) (by go_simp) ?_
  refine eqf_cons (by rfl) (by go_simp; rfl) (by go_simp; rfl) (by go_simp) ?_
  exact eqf_last (by rfl) (by go_simp; rfl) (by go_simp; rfl) (by go_simp)
theorem eqAnswer (d : Nat) (w : World) (x0 y0 : Int) (x1 y1 : Int) (x2 y2 : Int) (x3 y3 : ByteArray) (x4 y4 : ByteArray) (x5 y5 : Bool) :
    (Op.equalIn (d + 3) 39 (.agg #[.int .i64 x0, .int .i64 x1, .int .i64 x2, .string x3, .string x4, .bool x5]) (.agg #[.int .i64 y0, .int .i64 y1, .int .i64 y2, .string y3, .string y4, .bool y5])).run Tryd.prog w = .ok (x0 == y0 && (x1 == y1 && (x2 == y2 && ((x3.toList == y3.toList && (x4.toList == y4.toList && (x5 == y5))))))) w := by
  refine eqA_of Tryd.underlying39 (by kernel_rfl) ?_
  refine eqf_cons (by rfl) (by go_simp; rfl) (by go_simp; rfl) (by go_simp) ?_
  refine eqf_cons (by rfl) (by go_simp; rfl) (by go_simp; rfl) (by go_simp) ?_
  refine eqf_cons (by rfl) (by go_simp; rfl) (by go_simp; rfl) (by go_simp) ?_
  exact eqf_last (by rfl) (by go_simp) (by go_simp) (eqMsg (d + 0) w _ _ _ _ _ _)
end Go.Proofs.YtodiohoiekkodaaDoor
end

section
set_option linter.unusedVariables false
attribute [local go_sem high] Go.Proofs.YtodiohoiekkodaaDoor.eqOp
namespace Go.Proofs.YtodiohoiekkodaaDoor.Op
open Go.RowKit Go.Proofs.YtodiohoiekkodaaDoor.Bd Go.Proofs.YtodiohoiekkodaaDoor.Sp

/-- An operation as a value. -/
abbrev opV (k sub : Int) (t p : ByteArray) (keep : Bool) : Value := .agg #[.int .i64 k, .int .i64 sub, .string t, .string p, .bool keep]
/-- The fields that its line tells alone. -/
def toldS (k sub : Int) : Int := if k = 1 ∨ k = 2 ∨ k = 4 ∨ k = 5 then sub else 0
def toldT (k : Int) (t : ByteArray) : ByteArray := if k = 1 ∨ k = 2 ∨ k = 3 then t else ⟨#[]⟩
def toldP (k : Int) (p : ByteArray) : ByteArray := if k = 3 then p else ⟨#[]⟩
abbrev toldV (k sub : Int) (t p : ByteArray) (keep : Bool) : Value := opV k (toldS k sub) (toldT k t) (toldP k p) keep

set_option maxHeartbeats 4000000 in
set_option maxRecDepth 100000 in
theorem told_1 (sub : Int) (t p : ByteArray) (keep : Bool) (w : World) :
    Calls Tryd.prog 36 #[opV 1 sub t p keep] w fun e w' => e = .returned (opV 1 sub t ⟨#[]⟩ keep) ∧ Below w.heap.size w w' := by
  go_enter Tryd.func36, Tryd.ntmps36
  go_wp2
  go_region
  all_goals go_wp2
  all_goals exact bodyPost_ret (v := opV 1 sub t ⟨#[]⟩ keep) (by simp [results, Tryd.results36, go_sem]) rfl ⟨rfl, (by repeat (first | exact Below.refl _ _ | refine Below.drew ?_ | refine Below.alloc ?_ (by simp <;> omega) _ | refine Below.setCell ?_ (by simp <;> omega) _))⟩

set_option maxHeartbeats 4000000 in
set_option maxRecDepth 100000 in
theorem told_2 (sub : Int) (t p : ByteArray) (keep : Bool) (w : World) :
    Calls Tryd.prog 36 #[opV 2 sub t p keep] w fun e w' => e = .returned (opV 2 sub t ⟨#[]⟩ keep) ∧ Below w.heap.size w w' := by
  go_enter Tryd.func36, Tryd.ntmps36
  go_wp2
  go_region
  all_goals go_wp2
  all_goals exact bodyPost_ret (v := opV 2 sub t ⟨#[]⟩ keep) (by simp [results, Tryd.results36, go_sem]) rfl ⟨rfl, (by repeat (first | exact Below.refl _ _ | refine Below.drew ?_ | refine Below.alloc ?_ (by simp <;> omega) _ | refine Below.setCell ?_ (by simp <;> omega) _))⟩

set_option maxHeartbeats 4000000 in
set_option maxRecDepth 100000 in
theorem told_3 (sub : Int) (t p : ByteArray) (keep : Bool) (w : World) :
    Calls Tryd.prog 36 #[opV 3 sub t p keep] w fun e w' => e = .returned (opV 3 0 t p keep) ∧ Below w.heap.size w w' := by
  go_enter Tryd.func36, Tryd.ntmps36
  go_wp2
  go_region
  all_goals go_wp2
  all_goals exact bodyPost_ret (v := opV 3 0 t p keep) (by simp [results, Tryd.results36, go_sem]) rfl ⟨rfl, (by repeat (first | exact Below.refl _ _ | refine Below.drew ?_ | refine Below.alloc ?_ (by simp <;> omega) _ | refine Below.setCell ?_ (by simp <;> omega) _))⟩

set_option maxHeartbeats 4000000 in
set_option maxRecDepth 100000 in
theorem told_4 (sub : Int) (t p : ByteArray) (keep : Bool) (w : World) :
    Calls Tryd.prog 36 #[opV 4 sub t p keep] w fun e w' => e = .returned (opV 4 sub ⟨#[]⟩ ⟨#[]⟩ keep) ∧ Below w.heap.size w w' := by
  go_enter Tryd.func36, Tryd.ntmps36
  go_wp2
  all_goals exact bodyPost_ret (v := opV 4 sub ⟨#[]⟩ ⟨#[]⟩ keep) (by simp [results, Tryd.results36, go_sem]) rfl ⟨rfl, (by repeat (first | exact Below.refl _ _ | refine Below.drew ?_ | refine Below.alloc ?_ (by simp <;> omega) _ | refine Below.setCell ?_ (by simp <;> omega) _))⟩

set_option maxHeartbeats 4000000 in
set_option maxRecDepth 100000 in
theorem told_5 (sub : Int) (t p : ByteArray) (keep : Bool) (w : World) :
    Calls Tryd.prog 36 #[opV 5 sub t p keep] w fun e w' => e = .returned (opV 5 sub ⟨#[]⟩ ⟨#[]⟩ keep) ∧ Below w.heap.size w w' := by
  go_enter Tryd.func36, Tryd.ntmps36
  go_wp2
  all_goals exact bodyPost_ret (v := opV 5 sub ⟨#[]⟩ ⟨#[]⟩ keep) (by simp [results, Tryd.results36, go_sem]) rfl ⟨rfl, (by repeat (first | exact Below.refl _ _ | refine Below.drew ?_ | refine Below.alloc ?_ (by simp <;> omega) _ | refine Below.setCell ?_ (by simp <;> omega) _))⟩

set_option maxHeartbeats 4000000 in
set_option maxRecDepth 100000 in
theorem told_no (k sub : Int) (t p : ByteArray) (keep : Bool) (w : World) (h1 : (k == 1) = false) (h2 : (k == 2) = false) (h3 : (k == 3) = false) (h4 : (k == 4) = false) (h5 : (k == 5) = false) :
    Calls Tryd.prog 36 #[opV k sub t p keep] w fun e w' => e = .returned (opV k 0 ⟨#[]⟩ ⟨#[]⟩ keep) ∧ Below w.heap.size w w' := by
  go_enter Tryd.func36, Tryd.ntmps36
  go_wp2
  all_goals exact bodyPost_ret (v := opV k 0 ⟨#[]⟩ ⟨#[]⟩ keep) (by simp [results, Tryd.results36, go_sem]) rfl ⟨rfl, (by repeat (first | exact Below.refl _ _ | refine Below.drew ?_ | refine Below.alloc ?_ (by simp <;> omega) _ | refine Below.setCell ?_ (by simp <;> omega) _))⟩

theorem told_any (k sub : Int) (t p : ByteArray) (keep : Bool) (w : World) :
    Calls Tryd.prog 36 #[opV k sub t p keep] w fun e w' => e = .returned (toldV k sub t p keep) ∧ Below w.heap.size w w' := by
  by_cases h1 : k = 1
  · subst h1; exact told_1 sub t p keep w
  by_cases h2 : k = 2
  · subst h2; exact told_2 sub t p keep w
  by_cases h3 : k = 3
  · subst h3; exact told_3 sub t p keep w
  by_cases h4 : k = 4
  · subst h4; exact told_4 sub t p keep w
  by_cases h5 : k = 5
  · subst h5; exact told_5 sub t p keep w
  have e : toldV k sub t p keep = opV k 0 ⟨#[]⟩ ⟨#[]⟩ keep := by simp [toldV, toldS, toldT, toldP, h1, h2, h3, h4, h5]
  rw [e]
  exact told_no k sub t p keep w (by simp [h1]) (by simp [h2]) (by simp [h3]) (by simp [h4]) (by simp [h5])

theorem keep_cell {W w' : World} {a : Addr} {v : Value} (hb : Below W.heap.size W w') (hc : W.cell? a = some v) : w'.cell? a = some v := (hb.cell (World.block_lt_of_cell? W a hc)).trans hc
def OpAt (n : Nat) (k sub : Int) (t p : ByteArray) (keep : Bool) (w w' : World) : Prop :=
  w'.cell? ⟨n, 0, none⟩ = some (.int .i64 k) ∧ w'.cell? ⟨n, 1, none⟩ = some (.int .i64 sub) ∧ w'.cell? ⟨n, 2, none⟩ = some (.string t) ∧ w'.cell? ⟨n, 3, none⟩ = some (.string p) ∧ w'.cell? ⟨n, 4, none⟩ = some (.bool keep) ∧ Below w.heap.size w w'
theorem keep_op {n : Nat} {k sub : Int} {t p : ByteArray} {keep : Bool} {w W w' : World} (hb : Below W.heap.size W w') (h : OpAt n k sub t p keep w W) : OpAt n k sub t p keep w w' :=
  ⟨keep_cell hb h.1, keep_cell hb h.2.1, keep_cell hb h.2.2.1, keep_cell hb h.2.2.2.1, keep_cell hb h.2.2.2.2.1, h.2.2.2.2.2.trans (hb.mono h.2.2.2.2.2.size)⟩
theorem keep_bel {w W w' : World} (hb : Below W.heap.size W w') (h : Below w.heap.size w W) : Below w.heap.size w w' := h.trans (hb.mono h.size)

/-- Whether an operation is plain. -/
def plainOK (k sub : Int) (t p : ByteArray) (keep : Bool) : Bool :=
  !(nameOf k keep).toList.isEmpty && (toldS k sub == sub && ((toldT k t).toList == t.toList && ((toldP k p).toList == p.toList))) && decide (0 ≤ sub) && decide (sub ≤ 9999)

set_option maxHeartbeats 4000000 in
set_option maxRecDepth 100000 in
theorem plain_noname (k sub : Int) (t p : ByteArray) (keep : Bool) (w : World) (hn : nameOf k keep = ⟨#[]⟩) :
    Calls Tryd.prog 12 #[opV k sub t p keep] w fun e w' => e = .returned (.bool false) ∧ Below w.heap.size w w' := by
  have HN := Lib.hid hn
  clear hn
  have b0 : Below w.heap.size w (w.alloc (.cells #[.int .i64 k, .int .i64 sub, .string t, .string p, .bool keep] 23)).drew := ((Below.refl _ w).alloc (Nat.le_refl _) _).drew
  go_enter Tryd.func12, Tryd.ntmps12
  go_wp2
  first | go_region_with (go_at_call 30; refine (name_any _ _ _ _ _ _).mono ?_; rintro e w' ⟨rfl, hb⟩; rw [HN.out]; have hq := b0.trans (hb.mono (by simp)); clear hb) | fail
  all_goals
    go_wp2
    go_ret
    exact ⟨rfl, by assumption⟩

end Go.Proofs.YtodiohoiekkodaaDoor.Op
end

section
set_option linter.unusedVariables false
attribute [local go_sem high] Go.Proofs.YtodiohoiekkodaaDoor.eqOp
namespace Go.Proofs.YtodiohoiekkodaaDoor.Op
open Go.RowKit Go.Proofs.YtodiohoiekkodaaDoor.Bd Go.Proofs.YtodiohoiekkodaaDoor.Sp

set_option maxHeartbeats 4000000 in
set_option maxRecDepth 100000 in
theorem plain_sub (k sub : Int) (t p : ByteArray) (keep : Bool) (w : World) (hn : (nameOf k keep).toList.isEmpty = false) (hS : (toldS k sub == sub) = false) :
    Calls Tryd.prog 12 #[opV k sub t p keep] w fun e w' => e = .returned (.bool false) ∧ Below w.heap.size w w' := by
  have q0 : OpAt w.heap.size k sub t p keep w (w.alloc (.cells #[.int .i64 k, .int .i64 sub, .string t, .string p, .bool keep] 23)).drew := ⟨by go_simp, by go_simp, by go_simp, by go_simp, by go_simp, ((Below.refl _ w).alloc (Nat.le_refl _) _).drew⟩
  go_enter Tryd.func12, Tryd.ntmps12
  go_wp2
  first | go_region_with (first
     | (go_at_call 30; refine (name_any _ _ _ _ _ _).mono ?_; rintro e w' ⟨rfl, hb⟩; have q := keep_op hb q0; clear hb; have qq := q; unfold OpAt at qq; obtain ⟨r0, r1, r2, r3, r4, r5⟩ := qq)
     | (go_at_call 36; refine (told_any _ _ _ _ _ _).mono ?_; rintro e w' ⟨rfl, hb⟩; have q2 := keep_op hb q; clear hb; have qq := q2; unfold OpAt at qq; obtain ⟨s0, s1, s2, s3, s4, s5⟩ := qq)) | fail
  all_goals
    go_wp2
    go_ret
    exact ⟨rfl, by assumption⟩

set_option maxHeartbeats 4000000 in
set_option maxRecDepth 100000 in
theorem plain_text (k sub : Int) (t p : ByteArray) (keep : Bool) (w : World) (hn : (nameOf k keep).toList.isEmpty = false) (hS : (toldS k sub == sub) = true) (hT : ((toldT k t).toList == t.toList) = false) :
    Calls Tryd.prog 12 #[opV k sub t p keep] w fun e w' => e = .returned (.bool false) ∧ Below w.heap.size w w' := by
  have q0 : OpAt w.heap.size k sub t p keep w (w.alloc (.cells #[.int .i64 k, .int .i64 sub, .string t, .string p, .bool keep] 23)).drew := ⟨by go_simp, by go_simp, by go_simp, by go_simp, by go_simp, ((Below.refl _ w).alloc (Nat.le_refl _) _).drew⟩
  go_enter Tryd.func12, Tryd.ntmps12
  go_wp2
  first | go_region_with (first
     | (go_at_call 30; refine (name_any _ _ _ _ _ _).mono ?_; rintro e w' ⟨rfl, hb⟩; have q := keep_op hb q0; clear hb; have qq := q; unfold OpAt at qq; obtain ⟨r0, r1, r2, r3, r4, r5⟩ := qq)
     | (go_at_call 36; refine (told_any _ _ _ _ _ _).mono ?_; rintro e w' ⟨rfl, hb⟩; have q2 := keep_op hb q; clear hb; have qq := q2; unfold OpAt at qq; obtain ⟨s0, s1, s2, s3, s4, s5⟩ := qq)) | fail
  all_goals
    go_wp2
    go_ret
    exact ⟨rfl, by assumption⟩

set_option maxHeartbeats 4000000 in
set_option maxRecDepth 100000 in
theorem plain_payload (k sub : Int) (t p : ByteArray) (keep : Bool) (w : World) (hn : (nameOf k keep).toList.isEmpty = false) (hS : (toldS k sub == sub) = true) (hT : ((toldT k t).toList == t.toList) = true) (hP : ((toldP k p).toList == p.toList) = false) :
    Calls Tryd.prog 12 #[opV k sub t p keep] w fun e w' => e = .returned (.bool false) ∧ Below w.heap.size w w' := by
  have q0 : OpAt w.heap.size k sub t p keep w (w.alloc (.cells #[.int .i64 k, .int .i64 sub, .string t, .string p, .bool keep] 23)).drew := ⟨by go_simp, by go_simp, by go_simp, by go_simp, by go_simp, ((Below.refl _ w).alloc (Nat.le_refl _) _).drew⟩
  go_enter Tryd.func12, Tryd.ntmps12
  go_wp2
  first | go_region_with (first
     | (go_at_call 30; refine (name_any _ _ _ _ _ _).mono ?_; rintro e w' ⟨rfl, hb⟩; have q := keep_op hb q0; clear hb; have qq := q; unfold OpAt at qq; obtain ⟨r0, r1, r2, r3, r4, r5⟩ := qq)
     | (go_at_call 36; refine (told_any _ _ _ _ _ _).mono ?_; rintro e w' ⟨rfl, hb⟩; have q2 := keep_op hb q; clear hb; have qq := q2; unfold OpAt at qq; obtain ⟨s0, s1, s2, s3, s4, s5⟩ := qq)) | fail
  all_goals
    go_wp2
    go_ret
    exact ⟨rfl, by assumption⟩

end Go.Proofs.YtodiohoiekkodaaDoor.Op
end
