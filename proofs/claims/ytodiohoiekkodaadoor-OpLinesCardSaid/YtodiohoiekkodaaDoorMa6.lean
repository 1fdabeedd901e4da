/- The walks of op.Line. The walks of op.fill and its closure. The walks of op.fill: each way. -/
import Derived.Test.YtodiohoiekkodaaDoorMa5
import Derived.Maps.AppendAt
import Derived.Deep.RegionWith
import Derived.Deep.RegionLaw
import Derived.WalkSmall
import Derived.Lib.ItoaLen
import Derived.Test.YtodiohoiekkodaaDoorMa3
import Derived.Deep.QuietTactic
import Derived.BigQuiet
import Derived.Test.YtodiohoiekkodaaDoorWLast
section
set_option linter.unusedVariables false
namespace Go.Proofs.YtodiohoiekkodaaDoor.Op
open Go.RowKit Go.Proofs.YtodiohoiekkodaaDoor.Bd Go.Proofs.YtodiohoiekkodaaDoor.Sp

theorem keep_op_alloc {n : Nat} {k sub : Int} {t p : ByteArray} {keep : Bool} {w W : World} (h : OpAt n k sub t p keep w W) (o : Obj) : OpAt n k sub t p keep w (W.alloc o) :=
  keep_op ((Below.refl _ W).alloc (Nat.le_refl _) o) h
theorem keep_op_grown {n : Nat} {k sub : Int} {t p : ByteArray} {keep : Bool} {w W W' : World} {row : Option Nat} (h : OpAt n k sub t p keep w W) (hg : W.grownBy W' row) (hr : ∀ j, row = some j → w.heap.size ≤ j ∧ j ≠ n) : OpAt n k sub t p keep w W' := by
  have hc : ∀ (i : Nat) (v : Value), W.cell? ⟨n, i, none⟩ = some v → W'.cell? ⟨n, i, none⟩ = some v := fun i v hv =>
    (World.cell?_of_block (hg.block n (World.block_lt_of_cell? W _ hv) (fun e => (hr n e.symm).2 rfl))).trans hv
  exact ⟨hc _ _ h.1, hc _ _ h.2.1, hc _ _ h.2.2.1, hc _ _ h.2.2.2.1, hc _ _ h.2.2.2.2.1, h.2.2.2.2.2.grown hg h.2.2.2.2.2.size (fun j hj => (hr j hj).1)⟩

/-- An append to a row of the call's own, in a region that draws. -/
theorem step_append_own {P : Program} {w : World} {ops : Array Oper} {o : Oper} {a : Act} {K : Act → World → Prop} {Q : Exit → Act → World → Prop} {E : Prop} (hgd : o.guard = none) (s x : Operand) (t : TypeId)
    (ho : o.op = .call { callee := .builtin .append, args := #[s, x], argTypes := #[t, t] })
    (base : Nat) (e : TypeId) (i : TypeInfo) (z : Value) (size bytes : Nat) (ht : P.underlying t = some (.slice e)) (hi : P.info? e = some i) (hz : i.zero = some z)
    (hsize : i.size = size) (hby : i.bytes = bytes) (hzs : z.cells.size = size) (hsz : 0 < size)
    (v : Value) (n : Nat) (xs : List Value) (hs : a.eval s = v) (hown : w.ownsRow base e size v n xs)
    (ad : Addr) (m c : Nat) (news : List Value) (hx : a.eval x = .slice (some ad) m c) (hl : news.length = m * size) (hnews : ∀ j u, news[j]? = some u → w.cell? (ad.add j) = some u) (h1 : ∀ u ∈ news, u.oneCell' = true)
    (h63 : n + m ≤ maxLen) (hbytes : (n + m) * bytes ≤ 140737488355328) (hbase : base ≤ w.heap.size)
    (h : ∀ v' w', w'.ownsRow base e size v' (n + m) (xs ++ news) → w.grownBy w' v.ownBlock → (v' = .slice none 0 0 ↔ v = .slice none 0 0 ∧ m = 0) → K (a.put o.dst v') w') :
    if Region.wanted o (yielded ops a.tmps) = true then Oper.wp P o a w K Q else E := by
  rw [if_pos (by simp [Region.wanted, hgd])]
  exact wp_append_own w s x t ho base e i z size bytes ht hi hz hsize hby hzs hsz v n xs hs hown ad m c news hx hl hnews h1 h63 hbytes hbase h

theorem keep_op_drew {n : Nat} {k sub : Int} {t p : ByteArray} {keep : Bool} {w W : World} (h : OpAt n k sub t p keep w W) : OpAt n k sub t p keep w W.drew :=
  ⟨h.1, h.2.1, h.2.2.1, h.2.2.2.1, h.2.2.2.2.1, h.2.2.2.2.2.drew⟩

def lineWords (k sub : Int) (t p : ByteArray) (keep : Bool) : List ByteArray :=
  if k = 3 then [nameOf k keep, wordB t, wordB p] else if k = 1 ∨ k = 2 then [nameOf k keep, ba (Lib.itoa sub), wordB t] else [nameOf k keep, ba (Lib.itoa sub)]
def lineB (k sub : Int) (t p : ByteArray) (keep : Bool) : ByteArray := ba (Lib.join ((lineWords k sub t p keep).map (fun x => x.data.toList)) [32])

set_option maxHeartbeats 8000000 in
set_option maxRecDepth 100000 in
theorem line_bad (k sub : Int) (t p : ByteArray) (keep : Bool) (w : World) (hp : plainOK k sub t p keep = false) :
    Calls Tryd.prog 10 #[opV k sub t p keep] w fun e w' => e = .returned (.tuple #[.string ⟨#[]⟩, .int .i64 10]) ∧ Below w.heap.size w w' := by
  have q0 : OpAt w.heap.size k sub t p keep w (w.alloc (.cells #[.int .i64 k, .int .i64 sub, .string t, .string p, .bool keep] 23)) := ⟨by go_simp, by go_simp, by go_simp, by go_simp, by go_simp, (Below.refl _ w).alloc (Nat.le_refl _) _⟩
  have HP := Lib.hid hp
  clear hp
  go_enter Tryd.func10, Tryd.ntmps10
  go_wp2_with (go_at_call 12; refine (plain_any _ _ _ _ _ _).mono ?_; rintro e w1 ⟨rfl, hb1⟩; rw [HP.out]; have q1 := keep_op hb1 q0; clear hb1)
  go_ret2
  exact ⟨rfl, q1.2.2.2.2.2⟩

theorem nameOf_size (k : Int) (keep : Bool) : (nameOf k keep).data.toList.length ≤ 5 := by
  unfold nameOf
  split
  · decide
  split
  · decide
  split
  · decide
  split
  · decide
  split
  · decide
  split
  · decide
  · decide
theorem wordB_size (s : ByteArray) : (wordB s).data.toList.length ≤ 3 * s.size + 1 := wordL_length _
theorem itoa_len (n : Int) (h0 : 0 ≤ n) (h1 : n ≤ 9999) : (Lib.itoa n).length ≤ 21 := Lib.itoa_length_le n (by omega) (by omega)

set_option maxHeartbeats 8000000 in
set_option maxRecDepth 100000 in
theorem line_1 (sub : Int) (t p : ByteArray) (keep : Bool) (w : World) (hG : Glob w) (hp : plainOK 1 sub t p keep = true) (ht : t.size ≤ 4000) (h0 : 0 ≤ sub) (h1 : sub ≤ 9999) :
    Calls Tryd.prog 10 #[opV 1 sub t p keep] w fun e w' => e = .returned (.tuple #[.string (lineB 1 sub t p keep), .int .i64 0]) ∧ Below w.heap.size w w' := by
  obtain ⟨i0, hi, hz0, hz1, hz2⟩ := info_parts infoString
  have q0 : OpAt w.heap.size 1 sub t p keep w (w.alloc (.cells #[.int .i64 1, .int .i64 sub, .string t, .string p, .bool keep] 23)) := ⟨by go_simp, by go_simp, by go_simp, by go_simp, by go_simp, (Below.refl _ w).alloc (Nat.le_refl _) _⟩
  have HP := Lib.hid hp
  clear hp
  go_enter Tryd.func10, Tryd.ntmps10
  go_wp2_with (first
    | (go_at_call 12; refine (plain_any _ _ _ _ _ _).mono ?_; rintro e w1 ⟨rfl, hb1⟩; rw [HP.out]; have q1 := keep_op hb1 q0; clear hb1; have qq := q1; unfold OpAt at qq; obtain ⟨r0, r1, r2, r3, r4, r5⟩ := qq)
    | (go_at_call 30; refine (name_any _ _ _ _ _ _).mono ?_; rintro e w2 ⟨rfl, hb2⟩; have q2 := keep_op hb2 q1; clear hb2 r0 r1 r2 r3 r4 r5; have s0 := fun o => (keep_op_alloc q2 o).1; have s1 := fun o => (keep_op_alloc q2 o).2.1))
  have z2 : w.heap.size < w2.heap.size := World.block_lt_of_cell? w2 _ q2.1
  clear s0 s1
  have q3 := keep_op_alloc q2 (.cells #[.string (nameOf 1 keep)] 9)
  have l3 := ownsRow_lit1 w2 9 (.string (nameOf 1 keep)) (w.heap.size + 1) (by omega)
  refine (itoa_any sub _ (hG.below q3.2.2.2.2.2) (by omega) (by omega)).mono ?_
  rintro e w4 ⟨rfl, hb4⟩
  have q4 := keep_op hb4 q3
  have l4 := ownsRow_keep l3 hb4
  have z4 : w2.heap.size < w4.heap.size := by have := hb4.size; simp at this; omega
  clear q3 l3 hb4
  go_wp2_with (at_builtin; refine wpList_append_own _ rfl _ _ 58 rfl (w.heap.size + 1) 9 i0 (.string ⟨#[]⟩) 1 16 Tryd.underlying58 hi hz0 hz1 hz2 rfl (by decide) _ _ _ rfl (l4.alloc _) ⟨w4.heap.size, 0, none⟩ 1 1 [.string (ba (Lib.itoa sub))] rfl rfl ?c1 ?c2 ?c3 ?c4 ?c5 ?_)
  case c1 => exact cell_one_new _ _ _
  case c2 => intro u hu; simp at hu; subst hu; rfl
  case c3 => unfold maxLen; omega
  case c4 => omega
  case c5 => simp; omega
  intro v5 w5 l5 hg5 _
  have q5 := keep_op_grown (keep_op_alloc q4 _) hg5 (by intro j hj; simp [Value.ownBlock] at hj; omega)
  obtain ⟨g5, c5, rfl, hg5b, hg5c, hg5d⟩ := ownsRow_ptr l5 (by omega)
  have z5 : w4.heap.size < w5.heap.size := by have := hg5.size; simp at this; omega
  clear hg5 l4 q4
  have a0 := q5.1
  have a2 := q5.2.2.1
  go_wp2_with fail
  refine (word_any t _ (by omega)).mono ?_
  rintro e w6 ⟨rfl, hb6⟩
  have q6 := keep_op hb6 q5
  have l6 := ownsRow_keep l5 hb6
  have z6 : w5.heap.size ≤ w6.heap.size := hb6.size
  clear hb6 q5 l5 a0 a2
  go_wp2_with (at_builtin; refine wpList_append_own _ rfl _ _ 58 rfl (w.heap.size + 1) 9 i0 (.string ⟨#[]⟩) 1 16 Tryd.underlying58 hi hz0 hz1 hz2 rfl (by decide) _ _ _ rfl (l6.alloc _) ⟨w6.heap.size, 0, none⟩ 1 1 [.string (wordB t)] rfl rfl ?d1 ?d2 ?d3 ?d4 ?d5 ?_)
  case d1 => exact cell_one_new _ _ _
  case d2 => intro u hu; simp at hu; subst hu; rfl
  case d3 => unfold maxLen; omega
  case d4 => omega
  case d5 => simp; omega
  intro v7 w7 l7 hg7 _
  have q7 := keep_op_grown (keep_op_alloc q6 _) hg7 (by intro j hj; simp [Value.ownBlock] at hj; omega)
  obtain ⟨g7, c7, rfl, hg7b, hg7c, hg7d⟩ := ownsRow_ptr l7 (by omega)
  clear hg7 l6 q6
  have LW : lineWords 1 sub t p keep = [nameOf 1 keep, ba (Lib.itoa sub), wordB t] := rfl
  have hjl : (Lib.join (([nameOf 1 keep, ba (Lib.itoa sub), wordB t]).map (fun x => x.data.toList)) [32]).length ≤ 140737488355328 := by
    have b1 := nameOf_size 1 keep
    have b2 := itoa_len sub h0 h1
    have b3 := wordB_size t
    rw [List.map_cons, Lib.join_length]
    simp only [Lib.lens, List.map_cons, List.map_nil, List.sum_cons, List.sum_nil, List.length_cons, List.length_nil]
    omega
  go_wp2_with fail
  refine (Tryd.strings_Join g7 0 c7 [nameOf 1 keep, ba (Lib.itoa sub), wordB t] ⟨#[32]⟩ _ ?e1 hg7d (by simp) hg7c ?e2).mono ?_
  case e1 => intro j x hx; exact ownsRow_cells l7 j _ (by
    match j, hx with
    | 0, hx => simp at hx; subst hx; rfl
    | 1, hx => simp at hx; subst hx; rfl
    | 2, hx => simp at hx; subst hx; rfl)
  case e2 => exact hjl
  rintro e w8 ⟨rfl, hb8⟩
  have f8 := q7.2.2.2.2.2.trans (hb8.mono q7.2.2.2.2.2.size)
  clear hjl hb8 l7
  go_wp2
  go_ret2
  exact ⟨by unfold lineB; rw [LW]; rfl, f8⟩

set_option maxHeartbeats 8000000 in
set_option maxRecDepth 100000 in
theorem line_2 (sub : Int) (t p : ByteArray) (keep : Bool) (w : World) (hG : Glob w) (hp : plainOK 2 sub t p keep = true) (ht : t.size ≤ 4000) (h0 : 0 ≤ sub) (h1 : sub ≤ 9999) :
    Calls Tryd.prog 10 #[opV 2 sub t p keep] w fun e w' => e = .returned (.tuple #[.string (lineB 2 sub t p keep), .int .i64 0]) ∧ Below w.heap.size w w' := by
  obtain ⟨i0, hi, hz0, hz1, hz2⟩ := info_parts infoString
  have q0 : OpAt w.heap.size 2 sub t p keep w (w.alloc (.cells #[.int .i64 2, .int .i64 sub, .string t, .string p, .bool keep] 23)) := ⟨by go_simp, by go_simp, by go_simp, by go_simp, by go_simp, (Below.refl _ w).alloc (Nat.le_refl _) _⟩
  have HP := Lib.hid hp
  clear hp
  go_enter Tryd.func10, Tryd.ntmps10
  go_wp2_with (first
    | (go_at_call 12; refine (plain_any _ _ _ _ _ _).mono ?_; rintro e w1 ⟨rfl, hb1⟩; rw [HP.out]; have q1 := keep_op hb1 q0; clear hb1; have qq := q1; unfold OpAt at qq; obtain ⟨r0, r1, r2, r3, r4, r5⟩ := qq)
    | (go_at_call 30; refine (name_any _ _ _ _ _ _).mono ?_; rintro e w2 ⟨rfl, hb2⟩; have q2 := keep_op hb2 q1; clear hb2 r0 r1 r2 r3 r4 r5; have s0 := fun o => (keep_op_alloc q2 o).1; have s1 := fun o => (keep_op_alloc q2 o).2.1))
  have z2 : w.heap.size < w2.heap.size := World.block_lt_of_cell? w2 _ q2.1
  clear s0 s1
  have q3 := keep_op_alloc q2 (.cells #[.string (nameOf 2 keep)] 9)
  have l3 := ownsRow_lit1 w2 9 (.string (nameOf 2 keep)) (w.heap.size + 1) (by omega)
  refine (itoa_any sub _ (hG.below q3.2.2.2.2.2) (by omega) (by omega)).mono ?_
  rintro e w4 ⟨rfl, hb4⟩
  have q4 := keep_op hb4 q3
  have l4 := ownsRow_keep l3 hb4
  have z4 : w2.heap.size < w4.heap.size := by have := hb4.size; simp at this; omega
  clear q3 l3 hb4
  go_wp2_with (at_builtin; refine wpList_append_own _ rfl _ _ 58 rfl (w.heap.size + 1) 9 i0 (.string ⟨#[]⟩) 1 16 Tryd.underlying58 hi hz0 hz1 hz2 rfl (by decide) _ _ _ rfl (l4.alloc _) ⟨w4.heap.size, 0, none⟩ 1 1 [.string (ba (Lib.itoa sub))] rfl rfl ?c1 ?c2 ?c3 ?c4 ?c5 ?_)
  case c1 => exact cell_one_new _ _ _
  case c2 => intro u hu; simp at hu; subst hu; rfl
  case c3 => unfold maxLen; omega
  case c4 => omega
  case c5 => simp; omega
  intro v5 w5 l5 hg5 _
  have q5 := keep_op_grown (keep_op_alloc q4 _) hg5 (by intro j hj; simp [Value.ownBlock] at hj; omega)
  obtain ⟨g5, c5, rfl, hg5b, hg5c, hg5d⟩ := ownsRow_ptr l5 (by omega)
  have z5 : w4.heap.size < w5.heap.size := by have := hg5.size; simp at this; omega
  clear hg5 l4 q4
  have a0 := q5.1
  have a2 := q5.2.2.1
  go_wp2_with fail
  refine (word_any t _ (by omega)).mono ?_
  rintro e w6 ⟨rfl, hb6⟩
  have q6 := keep_op hb6 q5
  have l6 := ownsRow_keep l5 hb6
  have z6 : w5.heap.size ≤ w6.heap.size := hb6.size
  clear hb6 q5 l5 a0 a2
  go_wp2_with (at_builtin; refine wpList_append_own _ rfl _ _ 58 rfl (w.heap.size + 1) 9 i0 (.string ⟨#[]⟩) 1 16 Tryd.underlying58 hi hz0 hz1 hz2 rfl (by decide) _ _ _ rfl (l6.alloc _) ⟨w6.heap.size, 0, none⟩ 1 1 [.string (wordB t)] rfl rfl ?d1 ?d2 ?d3 ?d4 ?d5 ?_)
  case d1 => exact cell_one_new _ _ _
  case d2 => intro u hu; simp at hu; subst hu; rfl
  case d3 => unfold maxLen; omega
  case d4 => omega
  case d5 => simp; omega
  intro v7 w7 l7 hg7 _
  have q7 := keep_op_grown (keep_op_alloc q6 _) hg7 (by intro j hj; simp [Value.ownBlock] at hj; omega)
  obtain ⟨g7, c7, rfl, hg7b, hg7c, hg7d⟩ := ownsRow_ptr l7 (by omega)
  clear hg7 l6 q6
  have LW : lineWords 2 sub t p keep = [nameOf 2 keep, ba (Lib.itoa sub), wordB t] := rfl
  have hjl : (Lib.join (([nameOf 2 keep, ba (Lib.itoa sub), wordB t]).map (fun x => x.data.toList)) [32]).length ≤ 140737488355328 := by
    have b1 := nameOf_size 2 keep
    have b2 := itoa_len sub h0 h1
    have b3 := wordB_size t
    rw [List.map_cons, Lib.join_length]
    simp only [Lib.lens, List.map_cons, List.map_nil, List.sum_cons, List.sum_nil, List.length_cons, List.length_nil]
    omega
  go_wp2_with fail
  refine (Tryd.strings_Join g7 0 c7 [nameOf 2 keep, ba (Lib.itoa sub), wordB t] ⟨#[32]⟩ _ ?e1 hg7d (by simp) hg7c ?e2).mono ?_
  case e1 => intro j x hx; exact ownsRow_cells l7 j _ (by
    match j, hx with
    | 0, hx => simp at hx; subst hx; rfl
    | 1, hx => simp at hx; subst hx; rfl
    | 2, hx => simp at hx; subst hx; rfl)
  case e2 => exact hjl
  rintro e w8 ⟨rfl, hb8⟩
  have f8 := q7.2.2.2.2.2.trans (hb8.mono q7.2.2.2.2.2.size)
  clear hjl hb8 l7
  go_wp2
  go_ret2
  exact ⟨by unfold lineB; rw [LW]; rfl, f8⟩

set_option maxHeartbeats 8000000 in
set_option maxRecDepth 100000 in
theorem line_4 (sub : Int) (t p : ByteArray) (keep : Bool) (w : World) (hG : Glob w) (hp : plainOK 4 sub t p keep = true) (h0 : 0 ≤ sub) (h1 : sub ≤ 9999) :
    Calls Tryd.prog 10 #[opV 4 sub t p keep] w fun e w' => e = .returned (.tuple #[.string (lineB 4 sub t p keep), .int .i64 0]) ∧ Below w.heap.size w w' := by
  obtain ⟨i0, hi, hz0, hz1, hz2⟩ := info_parts infoString
  have q0 : OpAt w.heap.size 4 sub t p keep w (w.alloc (.cells #[.int .i64 4, .int .i64 sub, .string t, .string p, .bool keep] 23)) := ⟨by go_simp, by go_simp, by go_simp, by go_simp, by go_simp, (Below.refl _ w).alloc (Nat.le_refl _) _⟩
  have HP := Lib.hid hp
  clear hp
  go_enter Tryd.func10, Tryd.ntmps10
  go_wp2_with (first
    | (go_at_call 12; refine (plain_any _ _ _ _ _ _).mono ?_; rintro e w1 ⟨rfl, hb1⟩; rw [HP.out]; have q1 := keep_op hb1 q0; clear hb1; have qq := q1; unfold OpAt at qq; obtain ⟨r0, r1, r2, r3, r4, r5⟩ := qq)
    | (go_at_call 30; refine (name_any _ _ _ _ _ _).mono ?_; rintro e w2 ⟨rfl, hb2⟩; have q2 := keep_op hb2 q1; clear hb2 r0 r1 r2 r3 r4 r5; have s0 := fun o => (keep_op_alloc q2 o).1; have s1 := fun o => (keep_op_alloc q2 o).2.1))
  have z2 : w.heap.size < w2.heap.size := World.block_lt_of_cell? w2 _ q2.1
  clear s0 s1
  have q3 := keep_op_alloc q2 (.cells #[.string (nameOf 4 keep)] 9)
  have l3 := ownsRow_lit1 w2 9 (.string (nameOf 4 keep)) (w.heap.size + 1) (by omega)
  refine (itoa_any sub _ (hG.below q3.2.2.2.2.2) (by omega) (by omega)).mono ?_
  rintro e w4 ⟨rfl, hb4⟩
  have q4 := keep_op hb4 q3
  have l4 := ownsRow_keep l3 hb4
  have z4 : w2.heap.size < w4.heap.size := by have := hb4.size; simp at this; omega
  clear q3 l3 hb4
  go_wp2_with (at_builtin; refine wpList_append_own _ rfl _ _ 58 rfl (w.heap.size + 1) 9 i0 (.string ⟨#[]⟩) 1 16 Tryd.underlying58 hi hz0 hz1 hz2 rfl (by decide) _ _ _ rfl (l4.alloc _) ⟨w4.heap.size, 0, none⟩ 1 1 [.string (ba (Lib.itoa sub))] rfl rfl ?c1 ?c2 ?c3 ?c4 ?c5 ?_)
  case c1 => exact cell_one_new _ _ _
  case c2 => intro u hu; simp at hu; subst hu; rfl
  case c3 => unfold maxLen; omega
  case c4 => omega
  case c5 => simp; omega
  intro v5 w5 l5 hg5 _
  have q5 := keep_op_grown (keep_op_alloc q4 _) hg5 (by intro j hj; simp [Value.ownBlock] at hj; omega)
  obtain ⟨g5, c5, rfl, hg5b, hg5c, hg5d⟩ := ownsRow_ptr l5 (by omega)
  have z5 : w4.heap.size < w5.heap.size := by have := hg5.size; simp at this; omega
  clear hg5 l4 q4
  have a0 := q5.1
  have LW : lineWords 4 sub t p keep = [nameOf 4 keep, ba (Lib.itoa sub)] := rfl
  have hjl : (Lib.join (([nameOf 4 keep, ba (Lib.itoa sub)]).map (fun x => x.data.toList)) [32]).length ≤ 140737488355328 := by
    have b1 := nameOf_size 4 keep
    have b2 := itoa_len sub h0 h1
    rw [List.map_cons, Lib.join_length]
    simp only [Lib.lens, List.map_cons, List.map_nil, List.sum_cons, List.sum_nil, List.length_cons, List.length_nil]
    omega
  go_wp2_with fail
  refine (Tryd.strings_Join g5 0 c5 [nameOf 4 keep, ba (Lib.itoa sub)] ⟨#[32]⟩ _ ?e1 hg5d (by simp) hg5c ?e2).mono ?_
  case e1 => intro j x hx; exact ownsRow_cells l5 j _ (by
    match j, hx with
    | 0, hx => simp at hx; subst hx; rfl
    | 1, hx => simp at hx; subst hx; rfl)
  case e2 => exact hjl
  rintro e w8 ⟨rfl, hb8⟩
  have f8 := q5.2.2.2.2.2.trans (hb8.mono q5.2.2.2.2.2.size)
  clear hjl hb8 l5
  go_wp2
  go_ret2
  exact ⟨by unfold lineB; rw [LW]; rfl, f8⟩

set_option maxHeartbeats 8000000 in
set_option maxRecDepth 100000 in
theorem line_5 (sub : Int) (t p : ByteArray) (keep : Bool) (w : World) (hG : Glob w) (hp : plainOK 5 sub t p keep = true) (h0 : 0 ≤ sub) (h1 : sub ≤ 9999) :
    Calls Tryd.prog 10 #[opV 5 sub t p keep] w fun e w' => e = .returned (.tuple #[.string (lineB 5 sub t p keep), .int .i64 0]) ∧ Below w.heap.size w w' := by
  obtain ⟨i0, hi, hz0, hz1, hz2⟩ := info_parts infoString
  have q0 : OpAt w.heap.size 5 sub t p keep w (w.alloc (.cells #[.int .i64 5, .int .i64 sub, .string t, .string p, .bool keep] 23)) := ⟨by go_simp, by go_simp, by go_simp, by go_simp, by go_simp, (Below.refl _ w).alloc (Nat.le_refl _) _⟩
  have HP := Lib.hid hp
  clear hp
  go_enter Tryd.func10, Tryd.ntmps10
  go_wp2_with (first
    | (go_at_call 12; refine (plain_any _ _ _ _ _ _).mono ?_; rintro e w1 ⟨rfl, hb1⟩; rw [HP.out]; have q1 := keep_op hb1 q0; clear hb1; have qq := q1; unfold OpAt at qq; obtain ⟨r0, r1, r2, r3, r4, r5⟩ := qq)
    | (go_at_call 30; refine (name_any _ _ _ _ _ _).mono ?_; rintro e w2 ⟨rfl, hb2⟩; have q2 := keep_op hb2 q1; clear hb2 r0 r1 r2 r3 r4 r5; have s0 := fun o => (keep_op_alloc q2 o).1; have s1 := fun o => (keep_op_alloc q2 o).2.1))
  have z2 : w.heap.size < w2.heap.size := World.block_lt_of_cell? w2 _ q2.1
  clear s0 s1
  have q3 := keep_op_alloc q2 (.cells #[.string (nameOf 5 keep)] 9)
  have l3 := ownsRow_lit1 w2 9 (.string (nameOf 5 keep)) (w.heap.size + 1) (by omega)
  refine (itoa_any sub _ (hG.below q3.2.2.2.2.2) (by omega) (by omega)).mono ?_
  rintro e w4 ⟨rfl, hb4⟩
  have q4 := keep_op hb4 q3
  have l4 := ownsRow_keep l3 hb4
  have z4 : w2.heap.size < w4.heap.size := by have := hb4.size; simp at this; omega
  clear q3 l3 hb4
  go_wp2_with (at_builtin; refine wpList_append_own _ rfl _ _ 58 rfl (w.heap.size + 1) 9 i0 (.string ⟨#[]⟩) 1 16 Tryd.underlying58 hi hz0 hz1 hz2 rfl (by decide) _ _ _ rfl (l4.alloc _) ⟨w4.heap.size, 0, none⟩ 1 1 [.string (ba (Lib.itoa sub))] rfl rfl ?c1 ?c2 ?c3 ?c4 ?c5 ?_)
  case c1 => exact cell_one_new _ _ _
  case c2 => intro u hu; simp at hu; subst hu; rfl
  case c3 => unfold maxLen; omega
  case c4 => omega
  case c5 => simp; omega
  intro v5 w5 l5 hg5 _
  have q5 := keep_op_grown (keep_op_alloc q4 _) hg5 (by intro j hj; simp [Value.ownBlock] at hj; omega)
  obtain ⟨g5, c5, rfl, hg5b, hg5c, hg5d⟩ := ownsRow_ptr l5 (by omega)
  have z5 : w4.heap.size < w5.heap.size := by have := hg5.size; simp at this; omega
  clear hg5 l4 q4
  have a0 := q5.1
  have LW : lineWords 5 sub t p keep = [nameOf 5 keep, ba (Lib.itoa sub)] := rfl
  have hjl : (Lib.join (([nameOf 5 keep, ba (Lib.itoa sub)]).map (fun x => x.data.toList)) [32]).length ≤ 140737488355328 := by
    have b1 := nameOf_size 5 keep
    have b2 := itoa_len sub h0 h1
    rw [List.map_cons, Lib.join_length]
    simp only [Lib.lens, List.map_cons, List.map_nil, List.sum_cons, List.sum_nil, List.length_cons, List.length_nil]
    omega
  go_wp2_with fail
  refine (Tryd.strings_Join g5 0 c5 [nameOf 5 keep, ba (Lib.itoa sub)] ⟨#[32]⟩ _ ?e1 hg5d (by simp) hg5c ?e2).mono ?_
  case e1 => intro j x hx; exact ownsRow_cells l5 j _ (by
    match j, hx with
    | 0, hx => simp at hx; subst hx; rfl
    | 1, hx => simp at hx; subst hx; rfl)
  case e2 => exact hjl
  rintro e w8 ⟨rfl, hb8⟩
  have f8 := q5.2.2.2.2.2.trans (hb8.mono q5.2.2.2.2.2.size)
  clear hjl hb8 l5
  go_wp2
  go_ret2
  exact ⟨by unfold lineB; rw [LW]; rfl, f8⟩

set_option maxHeartbeats 8000000 in
set_option maxRecDepth 100000 in
theorem line_3 (sub : Int) (t p : ByteArray) (keep : Bool) (w : World) (hG : Glob w) (hp : plainOK 3 sub t p keep = true) (ht : t.size ≤ 4000) (hq : p.size ≤ 4000) :
    Calls Tryd.prog 10 #[opV 3 sub t p keep] w fun e w' => e = .returned (.tuple #[.string (lineB 3 sub t p keep), .int .i64 0]) ∧ Below w.heap.size w w' := by
  obtain ⟨i0, hi, hz0, hz1, hz2⟩ := info_parts infoString
  have q0 : OpAt w.heap.size 3 sub t p keep w (w.alloc (.cells #[.int .i64 3, .int .i64 sub, .string t, .string p, .bool keep] 23)) := ⟨by go_simp, by go_simp, by go_simp, by go_simp, by go_simp, (Below.refl _ w).alloc (Nat.le_refl _) _⟩
  have HP := Lib.hid hp
  clear hp
  go_enter Tryd.func10, Tryd.ntmps10
  go_wp2_with (first
    | (go_at_call 12; refine (plain_any _ _ _ _ _ _).mono ?_; rintro e w1 ⟨rfl, hb1⟩; rw [HP.out]; have q1 := keep_op hb1 q0; clear hb1; have qq := q1; unfold OpAt at qq; obtain ⟨r0, r1, r2, r3, r4, r5⟩ := qq)
    | (go_at_call 30; refine (name_any _ _ _ _ _ _).mono ?_; rintro e w2 ⟨rfl, hb2⟩; have q2 := keep_op hb2 q1; clear hb2 r0 r1 r2 r3 r4 r5; have s0 := fun o => (keep_op_alloc q2 o).1; have s2 := fun o => (keep_op_alloc q2 o).2.2.1; have s3 := fun o => (keep_op_alloc q2 o).2.2.2.1))
  have z2 : w.heap.size < w2.heap.size := World.block_lt_of_cell? w2 _ q2.1
  have q3 := keep_op_drew (keep_op_alloc q2 (.cells #[.string (nameOf 3 keep)] 9))
  have l3 : (w2.alloc (.cells #[.string (nameOf 3 keep)] 9)).drew.ownsRow (w.heap.size + 1) 9 1 (.slice (some ⟨w2.heap.size, 0, none⟩) 1 1) 1 [.string (nameOf 3 keep)] := ownsRow_lit1 w2 9 (.string (nameOf 3 keep)) (w.heap.size + 1) (by omega)
  have LW : lineWords 3 sub t p keep = [nameOf 3 keep, wordB t, wordB p] := rfl
  have hjl : (Lib.join (([nameOf 3 keep, wordB t, wordB p]).map (fun x => x.data.toList)) [32]).length ≤ 140737488355328 := by
    have b1 := nameOf_size 3 keep
    have b2 := wordB_size t
    have b3 := wordB_size p
    rw [List.map_cons, Lib.join_length]
    simp only [Lib.lens, List.map_cons, List.map_nil, List.sum_cons, List.sum_nil, List.length_cons, List.length_nil]
    omega
  have HLW := Lib.hid LW
  have HJL := Lib.hid hjl
  clear LW hjl
  go_region_law (first
    | (go_simp; go_at_call_of 32 (Value.string t); refine (word_any t _ (by omega)).mono ?_; rintro e w4 ⟨rfl, hb4⟩; have q4 := keep_op hb4 q3; have l4 := ownsRow_keep l3 hb4; have z4 : w2.heap.size < w4.heap.size := (by have := hb4.size; simp at this; omega); clear hb4; have a3 := q4.2.2.2.1)
    | (go_simp; go_at_call_of 32 (Value.string p); refine (word_any p _ (by omega)).mono ?_; rintro e w6 ⟨rfl, hb6⟩; have q6 := keep_op hb6 q4; have l6 := ownsRow_keep l4 hb6; have z6 : w4.heap.size ≤ w6.heap.size := hb6.size; clear hb6)
    | (refine step_append_own rfl (.tmp 33) (.tmp 40) 58 rfl (w.heap.size + 1) 9 i0 (.string ⟨#[]⟩) 1 16 Tryd.underlying58 hi hz0 hz1 hz2 rfl (by decide) (.slice (some ⟨w2.heap.size, 0, none⟩) 1 1) 1 [.string (nameOf 3 keep)] rfl (l6.alloc _) ⟨w6.heap.size, 0, none⟩ 2 2 [.string (wordB t), .string (wordB p)] rfl rfl ?c1 ?c2 ?c3 ?c4 ?c5 ?_; (case c1 => exact cell_two_new _ _ _ _); (case c2 => intro u hu; simp at hu; rcases hu with rfl | rfl <;> rfl); (case c3 => unfold maxLen; omega); (case c4 => omega); (case c5 => simp; omega); intro v7 w7 l7 hg7 hnil; clear hnil; have q7 := keep_op_grown (keep_op_alloc q6 _) hg7 (by intro j hj; simp [Value.ownBlock] at hj; omega); clear hg7))
  all_goals
    obtain ⟨g7, c7, rfl, hg7b, hg7c, hg7d⟩ := ownsRow_ptr l7 (by omega)
    go_wp2_with fail
    refine (Tryd.strings_Join g7 0 c7 [nameOf 3 keep, wordB t, wordB p] ⟨#[32]⟩ _ ?_ hg7d (by simp) hg7c ?_).mono ?_
    · intro j x hx; exact ownsRow_cells l7 j _ (by
        match j, hx with
        | 0, hx => simp at hx; subst hx; rfl
        | 1, hx => simp at hx; subst hx; rfl
        | 2, hx => simp at hx; subst hx; rfl)
    · exact HJL.out
    rintro e w8 ⟨rfl, hb8⟩
    have f8 := q7.2.2.2.2.2.trans (hb8.mono q7.2.2.2.2.2.size)
    clear hb8 l7
    go_wp2
    go_ret2
    exact ⟨by unfold lineB; rw [HLW.out]; rfl, f8⟩

def lineV (k sub : Int) (t p : ByteArray) (keep : Bool) : Value :=
  if plainOK k sub t p keep = true then .tuple #[.string (lineB k sub t p keep), .int .i64 0] else .tuple #[.string ⟨#[]⟩, .int .i64 10]
theorem plain_kind {k sub : Int} {t p : ByteArray} {keep : Bool} (h : plainOK k sub t p keep = true) : (k = 1 ∨ k = 2 ∨ k = 3 ∨ k = 4 ∨ k = 5) ∧ 0 ≤ sub ∧ sub ≤ 9999 := by
  simp only [plainOK, Bool.and_eq_true, decide_eq_true_eq] at h
  refine ⟨?_, h.1.2, h.2⟩
  have h1 := h.1.1.1
  by_cases c1 : k = 1
  · exact .inl c1
  by_cases c2 : k = 2
  · exact .inr (.inl c2)
  by_cases c3 : k = 3
  · exact .inr (.inr (.inl c3))
  by_cases c4 : k = 4
  · exact .inr (.inr (.inr (.inl c4)))
  by_cases c5 : k = 5
  · exact .inr (.inr (.inr (.inr c5)))
  simp [nameOf, c1, c2, c3, c4, c5, bytes_toList] at h1
theorem line_any (k sub : Int) (t p : ByteArray) (keep : Bool) (w : World) (hG : Glob w) (ht : t.size ≤ 4000) (hq : p.size ≤ 4000) :
    Calls Tryd.prog 10 #[opV k sub t p keep] w fun e w' => e = .returned (lineV k sub t p keep) ∧ Below w.heap.size w w' := by
  unfold lineV
  split
  · rename_i h
    obtain ⟨hk, h0, h1⟩ := plain_kind h
    rcases hk with rfl | rfl | rfl | rfl | rfl
    · exact line_1 sub t p keep w hG h ht h0 h1
    · exact line_2 sub t p keep w hG h ht h0 h1
    · exact line_3 sub t p keep w hG h ht hq
    · exact line_4 sub t p keep w hG h h0 h1
    · exact line_5 sub t p keep w hG h h0 h1
  · rename_i h
    exact line_bad k sub t p keep w (by simpa using h)
end Go.Proofs.YtodiohoiekkodaaDoor.Op
end

section
set_option linter.unusedVariables false
namespace Go.Proofs.YtodiohoiekkodaaDoor.Op
open Go.RowKit Go.Proofs.YtodiohoiekkodaaDoor.Bd Go.Proofs.YtodiohoiekkodaaDoor.Sp

/-- Of what there was nothing has turned, apart from block b. -/
structure Only (b : Nat) (w w' : World) : Prop where
  os : w'.os = w.os
  tape : w'.tape = w.tape
  output : w'.output = w.output
  size : w.heap.size ≤ w'.heap.size
  block : ∀ k, k < w.heap.size → k ≠ b → w'.heap[k]? = w.heap[k]?
theorem Only.refl (b : Nat) (w : World) : Only b w w := ⟨rfl, rfl, rfl, Nat.le_refl _, fun _ _ _ => rfl⟩
theorem Only.trans {b : Nat} {u v w : World} (h : Only b u v) (k : Only b v w) : Only b u w :=
  ⟨k.os.trans h.os, k.tape.trans h.tape, k.output.trans h.output, Nat.le_trans h.size k.size, fun i hi hne => (k.block i (Nat.lt_of_lt_of_le hi h.size) hne).trans (h.block i hi hne)⟩
theorem Only.of_below {b : Nat} {u w : World} (h : Below u.heap.size u w) : Only b u w := ⟨h.os, h.tape, h.output, h.size, fun k hk _ => h.block k hk⟩
theorem Only.below {b B : Nat} {u w : World} (h : Only b u w) (hB : B ≤ b) (hl : B ≤ u.heap.size) : Below B u w := ⟨h.os, h.tape, h.output, h.size, fun k hk => h.block k (by omega) (by omega)⟩
theorem Only.drew {b : Nat} {u w : World} (h : Only b u w) : Only b u w.drew := ⟨h.os, h.tape, h.output, h.size, h.block⟩
theorem Only.setCell {b : Nat} {u w : World} (h : Only b u w) {p : Addr} (hp : p.block = b) (x : Value) : Only b u (w.setCell p x) :=
  h.trans ⟨rfl, rfl, rfl, by simp [World.setCell], fun k _ hne => Below.heap_setCell _ _ _ _ (by rw [hp]; exact hne)⟩

/-- The answer of Unword as a text and a yes or no. -/
def unwT (w : ByteArray) : ByteArray := match unwordL w.data.toList with | some t => ba t | none => ⟨#[]⟩
def unwO (w : ByteArray) : Bool := (unwordL w.data.toList).isSome
theorem unwordV_eq (w : ByteArray) : unwordV w = .tuple #[.string (unwT w), .bool (unwO w)] := by
  unfold unwordV unwT unwO
  cases unwordL w.data.toList <;> rfl

set_option maxHeartbeats 4000000 in
set_option maxRecDepth 100000 in
theorem fill1_any (b off : Nat) (s : ByteArray) (x : Value) (w : World) (hG : Glob w) (hs : s.size ≤ 100000) (hc : w.cell? ⟨b, off, none⟩ = some x) (hf : w.frozen? ⟨b, off, none⟩ = false) :
    Calls Tryd.prog 62 #[.pointer (some ⟨b, off, none⟩), .string s] w fun e w' => e = .returned (.bool (unwO s)) ∧ ∃ w2, Below w.heap.size w w2 ∧ w2.setCell ⟨b, off, none⟩ (.string (unwT s)) = w' := by
  have hlt := World.block_lt_of_cell? w _ hc
  go_enter Tryd.func62, Tryd.ntmps62
  go_wp2_with (go_at_call 63; refine (unword_any s _ hG hs).mono ?_; rintro e w2 ⟨rfl, hb⟩; rw [unwordV_eq]; have c2 := (hb.cell hlt).trans hc; have f2 := (hb.frozen hlt).trans hf)
  go_ret
  exact ⟨rfl, w2, hb, rfl⟩

theorem Only.cell {b : Nat} {u w : World} (h : Only b u w) {p : Addr} {v : Value} (hp : p.block ≠ b) (hc : u.cell? p = some v) : w.cell? p = some v :=
  (World.cell?_of_block (h.block p.block (World.block_lt_of_cell? u p hc) hp)).trans hc
theorem fill1_x (b i : Nat) (cs : Array Value) (s : ByteArray) (w : World) (hG : Glob w) (hs : s.size ≤ 100000) (hx : w.heap[b]? = some (.cells cs 23 (0, 0))) (hi : i < cs.size) :
    Calls Tryd.prog 62 #[.pointer (some ⟨b, i, none⟩), .string s] w fun e w' => e = .returned (.bool (unwO s)) ∧ w'.heap[b]? = some (.cells (cs.setIfInBounds i (.string (unwT s))) 23 (0, 0)) ∧ Only b w w' := by
  have hb : b < w.heap.size := by
    rcases Nat.lt_or_ge b w.heap.size with h' | h'
    · exact h'
    · simp [Array.getElem?_eq_none h'] at hx
  refine (fill1_any b i s cs[i] w hG hs (by rw [Lib.cell_of_heap hx, Array.getElem?_eq_getElem hi]) (Lib.frozen_of_heap hx i)).mono ?_
  rintro e w' ⟨rfl, w2, hb2, rfl⟩
  refine ⟨rfl, ?_, (Only.of_below hb2).setCell (p := ⟨b, i, none⟩) rfl _⟩
  simp only [World.setCell, Array.getElem?_modify, if_true, (hb2.block b hb).trans hx]; rfl

theorem atoi_ok (s : ByteArray) (v : Int) (w : World) (hs : s.size ≤ 100000) (h : Lib.atoiAll s.data.toList = .ok v) :
    Calls Tryd.prog 64 #[.string s] w fun e w' => e = .returned (.tuple #[.int .i64 v, .nilIface]) ∧ Below w.heap.size w w' := by
  refine (Tryd.strconv_Atoi_ok s (by omega) v h w).mono ?_
  rintro e w' ⟨rfl, rfl | ⟨t, rfl⟩⟩
  · exact ⟨rfl, Below.refl _ _⟩
  · exact ⟨rfl, by unfold Lib.bytesWorld; exact Lib.below_freeze (((Below.refl _ w).drew).alloc (Nat.le_refl _) _) (p := ⟨w.heap.size, _, none⟩) (Nat.le_refl _) _⟩
theorem atoi_bad (s : ByteArray) (w : World) (hG : Glob w) (hs : s.size ≤ 100000) (h : ∀ v, Lib.atoiAll s.data.toList ≠ .ok v) :
    Calls Tryd.prog 64 #[.string s] w fun e w' => ∃ n N, e = .returned (.tuple #[.int .i64 n, .iface 142 (.pointer (some ⟨N, 0, none⟩))]) ∧ Below w.heap.size w w' := by
  cases hx : Lib.atoiAll s.data.toList with
  | ok v => exact absurd hx (h v)
  | range =>
    obtain ⟨tp, p, hv⟩ := hG.rngVar
    refine (Tryd.strconv_Atoi_range_var s (by omega) hx tp p w hv).mono ?_
    rintro e w' ⟨N, rfl, _, _, hb⟩
    exact ⟨_, N, rfl, hb⟩
  | _ =>
    obtain ⟨tp, p, hv⟩ := hG.synVar
    refine (Tryd.strconv_Atoi_syntax_var s (by omega) (hx.trans rfl) tp p w hv).mono ?_
    rintro e w' ⟨N, rfl, _, _, hb⟩
    exact ⟨_, N, rfl, hb⟩

/-- A fresh operation in block b. -/
abbrev XAt (b : Nat) (k sub : Int) (t p : ByteArray) (keep : Bool) (w : World) : Prop := w.heap[b]? = some (.cells #[.int .i64 k, .int .i64 sub, .string t, .string p, .bool keep] 23 (0, 0))

set_option maxHeartbeats 4000000 in
set_option maxRecDepth 100000 in
theorem fill_3_len (b : Nat) (keep : Bool) (A : Option Addr) (n c : Nat) (w : World) (hx : XAt b 3 0 ⟨#[]⟩ ⟨#[]⟩ keep w) (hn : ((n : Int) == 2) = false) :
    Calls Tryd.prog 39 #[.pointer (some ⟨b, 0, none⟩), .slice A n c] w fun e w' => e = .returned (.bool false) ∧ Below w.heap.size w w' := by
  have c0 : w.cell? ⟨b, 0, none⟩ = some (.int .i64 3) := by rw [Lib.cell_of_heap hx]; rfl
  go_enter Tryd.func39, Tryd.ntmps39
  go_wp2
  go_quiet (fail)
  go_wp2
  go_ret
  exact ⟨rfl, by repeat (first | exact Below.refl _ _ | refine below_drewN ?_ _ | refine Below.drew ?_)⟩

theorem _root_.Go.Proofs.YtodiohoiekkodaaDoor.Glob.on8 {w w' : World} (h : Glob w) {b : Nat} (ho : Only b w w') (hb : 8 ≤ b) : Glob w' :=
  h.on (Nat.le_refl 8) ⟨ho.os, ho.tape, ho.output, ho.size, fun k hk => ho.block k (Nat.lt_of_lt_of_le hk h.lt) (by omega)⟩
end Go.Proofs.YtodiohoiekkodaaDoor.Op
end

section
set_option linter.unusedVariables false
namespace Go.Proofs.YtodiohoiekkodaaDoor.Op
open Go.RowKit Go.Proofs.YtodiohoiekkodaaDoor.Bd Go.Proofs.YtodiohoiekkodaaDoor.Sp

set_option maxHeartbeats 8000000 in
set_option maxRecDepth 100000 in
theorem fill_3_no (b g : Nat) (keep : Bool) (a1 a2 : ByteArray) (c : Nat) (w : World) (hG : Glob w) (h1 : a1.size ≤ 100000) (hx : XAt b 3 0 ⟨#[]⟩ ⟨#[]⟩ keep w) (hg : g ≠ b)
    (d1 : w.cell? ⟨g, 1, none⟩ = some (.string a1)) (d2 : w.cell? ⟨g, 2, none⟩ = some (.string a2)) (hu : unwO a1 = false) :
    Calls Tryd.prog 39 #[.pointer (some ⟨b, 0, none⟩), .slice (some ⟨g, 1, none⟩) 2 c] w fun e w' => e = .returned (.bool false) ∧ Only b w w' := by
  have c0 : w.cell? ⟨b, 0, none⟩ = some (.int .i64 3) := by rw [Lib.cell_of_heap hx]; rfl
  have HX := Lib.hid hx
  have HU := Lib.hid hu
  clear hx hu
  go_enter Tryd.func39, Tryd.ntmps39
  go_wp2
  refine Go.Proofs.YtodiohoiekkodaaDoorW.PrintLast.start_ (n := 24) (S := (fun w' => w'.cell? ⟨g, 1, none⟩ = some (.string a1) ∧ w'.cell? ⟨g, 2, none⟩ = some (.string a2))) (ds := []) #[false, false, false, false, false, false, false, false, false, false, false, false, false, false, false, false, false, false, false, false, false, false, false, false] (by kernel_rfl) rfl rfl ⟨d1, d2⟩ (fun hHeld => ?_)
  refine Go.Proofs.YtodiohoiekkodaaDoorW.PrintLast.pure_ (i := 0) (N := (some 13)) (v := ?_) (a' := ?_) #[true, false, false, false, false, false, false, false, false, false, false, false, false, false, false, false, false, false, false, false, false, false, false, false] rfl rfl (by kernel_rfl) (fun _ _ _ h => h) (Or.inl ⟨by rfl, ?_⟩) ?_ ?_
  rotate_left
  · intro w'; go_simp; try (with_reducible rfl)
  rotate_left
  · simp only [Act.put, List.setIfInBounds_toArray, List.set_cons_zero, List.set_cons_succ]; rfl
  refine Go.Proofs.YtodiohoiekkodaaDoorW.PrintLast.pure_ (i := 1) (N := (some 14)) (v := ?_) (a' := ?_) #[true, true, false, false, false, false, false, false, false, false, false, false, false, false, false, false, false, false, false, false, false, false, false, false] rfl rfl (by kernel_rfl) (fun _ _ _ h => h) (Or.inl ⟨by rfl, ?_⟩) ?_ ?_
  rotate_left
  · intro w'; go_simp; try (with_reducible rfl)
  rotate_left
  · simp only [Act.put, List.setIfInBounds_toArray, List.set_cons_zero, List.set_cons_succ]; rfl
  refine Go.Proofs.YtodiohoiekkodaaDoorW.PrintLast.pure_ (i := 2) (N := (some 15)) (v := ?_) (a' := ?_) #[true, true, true, false, false, false, false, false, false, false, false, false, false, false, false, false, false, false, false, false, false, false, false, false] rfl rfl (by kernel_rfl) (fun _ _ _ h => h) (Or.inl ⟨by rfl, ?_⟩) ?_ ?_
  rotate_left
  · intro w'; go_simp; try (with_reducible rfl)
  rotate_left
  · simp only [Act.put, List.setIfInBounds_toArray, List.set_cons_zero, List.set_cons_succ]; rfl
  refine Go.Proofs.YtodiohoiekkodaaDoorW.PrintLast.pure_ (i := 3) (N := (some 16)) (v := ?_) (a' := ?_) #[true, true, true, true, false, false, false, false, false, false, false, false, false, false, false, false, false, false, false, false, false, false, false, false] rfl rfl (by kernel_rfl) (fun _ _ _ h => h) (Or.inl ⟨by rfl, ?_⟩) ?_ ?_
  rotate_left
  · intro w'; go_simp; try (with_reducible rfl)
  rotate_left
  · simp only [Act.put, List.setIfInBounds_toArray, List.set_cons_zero, List.set_cons_succ]; rfl
  refine Go.Proofs.YtodiohoiekkodaaDoorW.PrintLast.pure_ (i := 4) (N := (some 17)) (v := ?_) (a' := ?_) #[true, true, true, true, true, false, false, false, false, false, false, false, false, false, false, false, false, false, false, false, false, false, false, false] rfl rfl (by kernel_rfl) (fun _ _ _ h => h) (Or.inl ⟨by rfl, ?_⟩) ?_ ?_
  rotate_left
  · intro w'; go_simp; try (with_reducible rfl)
  rotate_left
  · simp only [Act.put, List.setIfInBounds_toArray, List.set_cons_zero, List.set_cons_succ]; rfl
  refine Go.Proofs.YtodiohoiekkodaaDoorW.PrintLast.pure_ (i := 5) (N := (some 18)) (v := ?_) (a' := ?_) #[true, true, true, true, true, true, false, false, false, false, false, false, false, false, false, false, false, false, false, false, false, false, false, false] rfl rfl (by kernel_rfl) (fun _ _ _ h => h) (Or.inl ⟨by rfl, ?_⟩) ?_ ?_
  rotate_left
  · intro w'; go_simp; try (with_reducible rfl)
  rotate_left
  · simp only [Act.put, List.setIfInBounds_toArray, List.set_cons_zero, List.set_cons_succ]; rfl
  refine Go.Proofs.YtodiohoiekkodaaDoorW.PrintLast.pure_ (i := 6) (N := (some 19)) (v := ?_) (a' := ?_) #[true, true, true, true, true, true, true, false, false, false, false, false, false, false, false, false, false, false, false, false, false, false, false, false] rfl rfl (by kernel_rfl) (fun _ _ _ h => h) (Or.inl ⟨by rfl, ?_⟩) ?_ ?_
  rotate_left
  · intro w'; go_simp; try (with_reducible rfl)
  rotate_left
  · simp only [Act.put, List.setIfInBounds_toArray, List.set_cons_zero, List.set_cons_succ]; rfl
  refine Go.Proofs.YtodiohoiekkodaaDoorW.PrintLast.pure_ (i := 7) (N := (some 20)) (v := ?_) (a' := ?_) #[true, true, true, true, true, true, true, true, false, false, false, false, false, false, false, false, false, false, false, false, false, false, false, false] rfl rfl (by kernel_rfl) (fun _ _ _ h => h) (Or.inl ⟨by rfl, ?_⟩) ?_ ?_
  rotate_left
  · intro w'; go_simp; try (with_reducible rfl)
  rotate_left
  · simp only [Act.put, List.setIfInBounds_toArray, List.set_cons_zero, List.set_cons_succ]; rfl
  refine Go.Proofs.YtodiohoiekkodaaDoorW.PrintLast.pure_ (i := 8) (N := (some 21)) (v := ?_) (a' := ?_) #[true, true, true, true, true, true, true, true, true, false, false, false, false, false, false, false, false, false, false, false, false, false, false, false] rfl rfl (by kernel_rfl) (fun _ _ _ h => h) (Or.inl ⟨by rfl, ?_⟩) ?_ ?_
  rotate_left
  · intro w'; go_simp; try (with_reducible rfl)
  rotate_left
  · simp only [Act.put, List.setIfInBounds_toArray, List.set_cons_zero, List.set_cons_succ]; rfl
  refine Go.Proofs.YtodiohoiekkodaaDoorW.PrintLast.pure_ (i := 9) (N := (some 22)) (v := ?_) (a' := ?_) #[true, true, true, true, true, true, true, true, true, true, false, false, false, false, false, false, false, false, false, false, false, false, false, false] rfl rfl (by kernel_rfl) (fun _ _ _ h => h) (Or.inl ⟨by rfl, ?_⟩) ?_ ?_
  rotate_left
  · intro w'; go_simp; try (with_reducible rfl)
  rotate_left
  · simp only [Act.put, List.setIfInBounds_toArray, List.set_cons_zero, List.set_cons_succ]; rfl
  refine Go.Proofs.YtodiohoiekkodaaDoorW.PrintLast.take_ (i := 10) (N := (some 23)) (v := ?_) (a' := ?_) #[true, true, true, true, true, true, true, true, true, true, true, false, false, false, false, false, false, false, false, false, false, false, false, false] rfl rfl (by kernel_rfl) (fun _ _ _ h => h) (Or.inl ⟨by rfl, ?_⟩) hHeld ?_ ?_
  rotate_left
  · intro w' hh; (try obtain ⟨s0, s1, s2, s3, s4, s5, s6, s7⟩ := hh); (try obtain ⟨s0, s1, s2, s3, s4, s5, s6⟩ := hh); (try obtain ⟨s0, s1, s2, s3, s4, s5⟩ := hh); (try obtain ⟨s0, s1, s2, s3, s4⟩ := hh); (try obtain ⟨s0, s1, s2, s3⟩ := hh); (try obtain ⟨s0, s1, s2⟩ := hh); (try obtain ⟨s0, s1⟩ := hh); go_simp; try (with_reducible rfl)
  rotate_left
  · simp only [Act.put, List.setIfInBounds_toArray, List.set_cons_zero, List.set_cons_succ]; rfl
  refine Go.Proofs.YtodiohoiekkodaaDoorW.PrintLast.one_ (i := 11) (N := (some 24)) #[true, true, true, true, true, true, true, true, true, true, true, true, false, false, false, false, false, false, false, false, false, false, false, false] rfl rfl (by kernel_rfl) (by decide) (fun K hK => ?_)
  have HK := hK
  clear hK hHeld
  go_simp
  refine (fill1_x b 2 _ a1 _ hG.drew h1 HX.out (by simp)).mono ?_
  rintro e w3 ⟨rfl, hx3, ho3⟩
  rw [HU.out]
  have ho := (Only.refl b w).drew.trans ho3
  have e1 := ho.cell (p := ⟨g, 1, none⟩) hg d1
  have e2 := ho.cell (p := ⟨g, 2, none⟩) hg d2
  have HX3 := Lib.hid hx3
  clear ho3 hx3
  refine HK.out _ _ (⟨e1, e2⟩) (fun hHeld => ?_)
  clear HK
  try (simp only [Act.put, List.setIfInBounds_toArray, List.set_cons_zero, List.set_cons_succ])
  refine Go.Proofs.YtodiohoiekkodaaDoorW.PrintLast.pure_ (i := 12) (N := (some 25)) (v := ?_) (a' := ?_) #[true, true, true, true, true, true, true, true, true, true, true, true, true, false, false, false, false, false, false, false, false, false, false, false] rfl rfl (by kernel_rfl) (fun _ _ _ h => h) (Or.inl ⟨by rfl, ?_⟩) ?_ ?_
  rotate_left
  · intro w'; go_simp; try (with_reducible rfl)
  rotate_left
  · simp only [Act.put, List.setIfInBounds_toArray, List.set_cons_zero, List.set_cons_succ]; rfl
  refine Go.Proofs.YtodiohoiekkodaaDoorW.PrintLast.pure_ (i := 13) (N := (some 26)) (v := ?_) (a' := ?_) #[true, true, true, true, true, true, true, true, true, true, true, true, true, true, false, false, false, false, false, false, false, false, false, false] rfl rfl (by kernel_rfl) (fun _ _ _ h => h) (Or.inl ⟨by rfl, ?_⟩) ?_ ?_
  rotate_left
  · intro w'; go_simp; try (with_reducible rfl)
  rotate_left
  · simp only [Act.put, List.setIfInBounds_toArray, List.set_cons_zero, List.set_cons_succ]; rfl
  refine Go.Proofs.YtodiohoiekkodaaDoorW.PrintLast.pure_ (i := 14) (N := (some 27)) (v := undef) (a' := ?_) #[true, true, true, true, true, true, true, true, true, true, true, true, true, true, true, false, false, false, false, false, false, false, false, false] rfl rfl (by kernel_rfl) (fun _ _ _ h => h) (Or.inr ⟨by rfl, rfl⟩) ?_ ?_
  rotate_left
  · simp only [Act.put, List.setIfInBounds_toArray, List.set_cons_zero, List.set_cons_succ]; rfl
  refine Go.Proofs.YtodiohoiekkodaaDoorW.PrintLast.pure_ (i := 15) (N := (some 28)) (v := undef) (a' := ?_) #[true, true, true, true, true, true, true, true, true, true, true, true, true, true, true, true, false, false, false, false, false, false, false, false] rfl rfl (by kernel_rfl) (fun _ _ _ h => h) (Or.inr ⟨by rfl, rfl⟩) ?_ ?_
  rotate_left
  · simp only [Act.put, List.setIfInBounds_toArray, List.set_cons_zero, List.set_cons_succ]; rfl
  refine Go.Proofs.YtodiohoiekkodaaDoorW.PrintLast.pure_ (i := 16) (N := (some 29)) (v := undef) (a' := ?_) #[true, true, true, true, true, true, true, true, true, true, true, true, true, true, true, true, true, false, false, false, false, false, false, false] rfl rfl (by kernel_rfl) (fun _ _ _ h => h) (Or.inr ⟨by rfl, rfl⟩) ?_ ?_
  rotate_left
  · simp only [Act.put, List.setIfInBounds_toArray, List.set_cons_zero, List.set_cons_succ]; rfl
  refine Go.Proofs.YtodiohoiekkodaaDoorW.PrintLast.pure_ (i := 17) (N := (some 30)) (v := undef) (a' := ?_) #[true, true, true, true, true, true, true, true, true, true, true, true, true, true, true, true, true, true, false, false, false, false, false, false] rfl rfl (by kernel_rfl) (fun _ _ _ h => h) (Or.inr ⟨by rfl, rfl⟩) ?_ ?_
  rotate_left
  · simp only [Act.put, List.setIfInBounds_toArray, List.set_cons_zero, List.set_cons_succ]; rfl
  refine Go.Proofs.YtodiohoiekkodaaDoorW.PrintLast.pure_ (i := 18) (N := (some 31)) (v := undef) (a' := ?_) #[true, true, true, true, true, true, true, true, true, true, true, true, true, true, true, true, true, true, true, false, false, false, false, false] rfl rfl (by kernel_rfl) (fun _ _ _ h => h) (Or.inr ⟨by rfl, rfl⟩) ?_ ?_
  rotate_left
  · simp only [Act.put, List.setIfInBounds_toArray, List.set_cons_zero, List.set_cons_succ]; rfl
  refine Go.Proofs.YtodiohoiekkodaaDoorW.PrintLast.pure_ (i := 19) (N := (some 32)) (v := undef) (a' := ?_) #[true, true, true, true, true, true, true, true, true, true, true, true, true, true, true, true, true, true, true, true, false, false, false, false] rfl rfl (by kernel_rfl) (fun _ _ _ h => h) (Or.inr ⟨by rfl, rfl⟩) ?_ ?_
  rotate_left
  · simp only [Act.put, List.setIfInBounds_toArray, List.set_cons_zero, List.set_cons_succ]; rfl
  refine Go.Proofs.YtodiohoiekkodaaDoorW.PrintLast.pure_ (i := 20) (N := (some 33)) (v := undef) (a' := ?_) #[true, true, true, true, true, true, true, true, true, true, true, true, true, true, true, true, true, true, true, true, true, false, false, false] rfl rfl (by kernel_rfl) (fun _ _ _ h => h) (Or.inr ⟨by rfl, rfl⟩) ?_ ?_
  rotate_left
  · simp only [Act.put, List.setIfInBounds_toArray, List.set_cons_zero, List.set_cons_succ]; rfl
  refine Go.Proofs.YtodiohoiekkodaaDoorW.PrintLast.pure_ (i := 21) (N := (some 34)) (v := undef) (a' := ?_) #[true, true, true, true, true, true, true, true, true, true, true, true, true, true, true, true, true, true, true, true, true, true, false, false] rfl rfl (by kernel_rfl) (fun _ _ _ h => h) (Or.inr ⟨by rfl, rfl⟩) ?_ ?_
  rotate_left
  · simp only [Act.put, List.setIfInBounds_toArray, List.set_cons_zero, List.set_cons_succ]; rfl
  refine Go.Proofs.YtodiohoiekkodaaDoorW.PrintLast.pure_ (i := 22) (N := (some 35)) (v := ?_) (a' := ?_) #[true, true, true, true, true, true, true, true, true, true, true, true, true, true, true, true, true, true, true, true, true, true, true, false] rfl rfl (by kernel_rfl) (fun _ _ _ h => h) (Or.inl ⟨by rfl, ?_⟩) ?_ ?_
  rotate_left
  · intro w'; go_simp; try (with_reducible rfl)
  rotate_left
  · simp only [Act.put, List.setIfInBounds_toArray, List.set_cons_zero, List.set_cons_succ]; rfl
  refine Go.Proofs.YtodiohoiekkodaaDoorW.PrintLast.pure_ (i := 23) (N := (some 4)) (v := ?_) (a' := ?_) #[true, true, true, true, true, true, true, true, true, true, true, true, true, true, true, true, true, true, true, true, true, true, true, true] rfl rfl (by kernel_rfl) (fun _ _ _ h => h) (Or.inl ⟨by rfl, ?_⟩) ?_ ?_
  rotate_left
  · intro w'; go_simp; try (with_reducible rfl)
  rotate_left
  · simp only [Act.put, List.setIfInBounds_toArray, List.set_cons_zero, List.set_cons_succ]; rfl
  refine Go.Proofs.YtodiohoiekkodaaDoorW.PrintLast.done_ (by kernel_rfl) ?_
  go_wp2
  go_ret
  exact ⟨rfl, ho⟩

set_option maxHeartbeats 8000000 in
set_option maxRecDepth 100000 in
theorem fill_3_two (b g : Nat) (keep : Bool) (a1 a2 : ByteArray) (c : Nat) (w : World) (hG : Glob w) (hb8 : 8 ≤ b) (h1 : a1.size ≤ 100000) (h2 : a2.size ≤ 100000) (hx : XAt b 3 0 ⟨#[]⟩ ⟨#[]⟩ keep w) (hg : g ≠ b)
    (d1 : w.cell? ⟨g, 1, none⟩ = some (.string a1)) (d2 : w.cell? ⟨g, 2, none⟩ = some (.string a2)) (hu : unwO a1 = true) :
    Calls Tryd.prog 39 #[.pointer (some ⟨b, 0, none⟩), .slice (some ⟨g, 1, none⟩) 2 c] w fun e w' => e = .returned (.bool (unwO a2)) ∧ XAt b 3 0 (unwT a1) (unwT a2) keep w' ∧ Only b w w' := by
  have c0 : w.cell? ⟨b, 0, none⟩ = some (.int .i64 3) := by rw [Lib.cell_of_heap hx]; rfl
  have HX := Lib.hid hx
  have HU := Lib.hid hu
  clear hx hu
  go_enter Tryd.func39, Tryd.ntmps39
  go_wp2
  refine Go.Proofs.YtodiohoiekkodaaDoorW.PrintLast.start_ (n := 24) (S := (fun w' => w'.cell? ⟨g, 1, none⟩ = some (.string a1) ∧ w'.cell? ⟨g, 2, none⟩ = some (.string a2))) (ds := []) #[false, false, false, false, false, false, false, false, false, false, false, false, false, false, false, false, false, false, false, false, false, false, false, false] (by kernel_rfl) rfl rfl ⟨d1, d2⟩ (fun hHeld => ?_)
  refine Go.Proofs.YtodiohoiekkodaaDoorW.PrintLast.pure_ (i := 0) (N := (some 13)) (v := ?_) (a' := ?_) #[true, false, false, false, false, false, false, false, false, false, false, false, false, false, false, false, false, false, false, false, false, false, false, false] rfl rfl (by kernel_rfl) (fun _ _ _ h => h) (Or.inl ⟨by rfl, ?_⟩) ?_ ?_
  rotate_left
  · intro w'; go_simp; try (with_reducible rfl)
  rotate_left
  · simp only [Act.put, List.setIfInBounds_toArray, List.set_cons_zero, List.set_cons_succ]; rfl
  refine Go.Proofs.YtodiohoiekkodaaDoorW.PrintLast.pure_ (i := 1) (N := (some 14)) (v := ?_) (a' := ?_) #[true, true, false, false, false, false, false, false, false, false, false, false, false, false, false, false, false, false, false, false, false, false, false, false] rfl rfl (by kernel_rfl) (fun _ _ _ h => h) (Or.inl ⟨by rfl, ?_⟩) ?_ ?_
  rotate_left
  · intro w'; go_simp; try (with_reducible rfl)
  rotate_left
  · simp only [Act.put, List.setIfInBounds_toArray, List.set_cons_zero, List.set_cons_succ]; rfl
  refine Go.Proofs.YtodiohoiekkodaaDoorW.PrintLast.pure_ (i := 2) (N := (some 15)) (v := ?_) (a' := ?_) #[true, true, true, false, false, false, false, false, false, false, false, false, false, false, false, false, false, false, false, false, false, false, false, false] rfl rfl (by kernel_rfl) (fun _ _ _ h => h) (Or.inl ⟨by rfl, ?_⟩) ?_ ?_
  rotate_left
  · intro w'; go_simp; try (with_reducible rfl)
  rotate_left
  · simp only [Act.put, List.setIfInBounds_toArray, List.set_cons_zero, List.set_cons_succ]; rfl
  refine Go.Proofs.YtodiohoiekkodaaDoorW.PrintLast.pure_ (i := 3) (N := (some 16)) (v := ?_) (a' := ?_) #[true, true, true, true, false, false, false, false, false, false, false, false, false, false, false, false, false, false, false, false, false, false, false, false] rfl rfl (by kernel_rfl) (fun _ _ _ h => h) (Or.inl ⟨by rfl, ?_⟩) ?_ ?_
  rotate_left
  · intro w'; go_simp; try (with_reducible rfl)
  rotate_left
  · simp only [Act.put, List.setIfInBounds_toArray, List.set_cons_zero, List.set_cons_succ]; rfl
  refine Go.Proofs.YtodiohoiekkodaaDoorW.PrintLast.pure_ (i := 4) (N := (some 17)) (v := ?_) (a' := ?_) #[true, true, true, true, true, false, false, false, false, false, false, false, false, false, false, false, false, false, false, false, false, false, false, false] rfl rfl (by kernel_rfl) (fun _ _ _ h => h) (Or.inl ⟨by rfl, ?_⟩) ?_ ?_
  rotate_left
  · intro w'; go_simp; try (with_reducible rfl)
  rotate_left
  · simp only [Act.put, List.setIfInBounds_toArray, List.set_cons_zero, List.set_cons_succ]; rfl
  refine Go.Proofs.YtodiohoiekkodaaDoorW.PrintLast.pure_ (i := 5) (N := (some 18)) (v := ?_) (a' := ?_) #[true, true, true, true, true, true, false, false, false, false, false, false, false, false, false, false, false, false, false, false, false, false, false, false] rfl rfl (by kernel_rfl) (fun _ _ _ h => h) (Or.inl ⟨by rfl, ?_⟩) ?_ ?_
  rotate_left
  · intro w'; go_simp; try (with_reducible rfl)
  rotate_left
  · simp only [Act.put, List.setIfInBounds_toArray, List.set_cons_zero, List.set_cons_succ]; rfl
  refine Go.Proofs.YtodiohoiekkodaaDoorW.PrintLast.pure_ (i := 6) (N := (some 19)) (v := ?_) (a' := ?_) #[true, true, true, true, true, true, true, false, false, false, false, false, false, false, false, false, false, false, false, false, false, false, false, false] rfl rfl (by kernel_rfl) (fun _ _ _ h => h) (Or.inl ⟨by rfl, ?_⟩) ?_ ?_
  rotate_left
  · intro w'; go_simp; try (with_reducible rfl)
  rotate_left
  · simp only [Act.put, List.setIfInBounds_toArray, List.set_cons_zero, List.set_cons_succ]; rfl
  refine Go.Proofs.YtodiohoiekkodaaDoorW.PrintLast.pure_ (i := 7) (N := (some 20)) (v := ?_) (a' := ?_) #[true, true, true, true, true, true, true, true, false, false, false, false, false, false, false, false, false, false, false, false, false, false, false, false] rfl rfl (by kernel_rfl) (fun _ _ _ h => h) (Or.inl ⟨by rfl, ?_⟩) ?_ ?_
  rotate_left
  · intro w'; go_simp; try (with_reducible rfl)
  rotate_left
  · simp only [Act.put, List.setIfInBounds_toArray, List.set_cons_zero, List.set_cons_succ]; rfl
  refine Go.Proofs.YtodiohoiekkodaaDoorW.PrintLast.pure_ (i := 8) (N := (some 21)) (v := ?_) (a' := ?_) #[true, true, true, true, true, true, true, true, true, false, false, false, false, false, false, false, false, false, false, false, false, false, false, false] rfl rfl (by kernel_rfl) (fun _ _ _ h => h) (Or.inl ⟨by rfl, ?_⟩) ?_ ?_
  rotate_left
  · intro w'; go_simp; try (with_reducible rfl)
  rotate_left
  · simp only [Act.put, List.setIfInBounds_toArray, List.set_cons_zero, List.set_cons_succ]; rfl
  refine Go.Proofs.YtodiohoiekkodaaDoorW.PrintLast.pure_ (i := 9) (N := (some 22)) (v := ?_) (a' := ?_) #[true, true, true, true, true, true, true, true, true, true, false, false, false, false, false, false, false, false, false, false, false, false, false, false] rfl rfl (by kernel_rfl) (fun _ _ _ h => h) (Or.inl ⟨by rfl, ?_⟩) ?_ ?_
  rotate_left
  · intro w'; go_simp; try (with_reducible rfl)
  rotate_left
  · simp only [Act.put, List.setIfInBounds_toArray, List.set_cons_zero, List.set_cons_succ]; rfl
  refine Go.Proofs.YtodiohoiekkodaaDoorW.PrintLast.take_ (i := 10) (N := (some 23)) (v := ?_) (a' := ?_) #[true, true, true, true, true, true, true, true, true, true, true, false, false, false, false, false, false, false, false, false, false, false, false, false] rfl rfl (by kernel_rfl) (fun _ _ _ h => h) (Or.inl ⟨by rfl, ?_⟩) hHeld ?_ ?_
  rotate_left
  · intro w' hh; (try obtain ⟨s0, s1, s2, s3, s4, s5, s6, s7⟩ := hh); (try obtain ⟨s0, s1, s2, s3, s4, s5, s6⟩ := hh); (try obtain ⟨s0, s1, s2, s3, s4, s5⟩ := hh); (try obtain ⟨s0, s1, s2, s3, s4⟩ := hh); (try obtain ⟨s0, s1, s2, s3⟩ := hh); (try obtain ⟨s0, s1, s2⟩ := hh); (try obtain ⟨s0, s1⟩ := hh); go_simp; try (with_reducible rfl)
  rotate_left
  · simp only [Act.put, List.setIfInBounds_toArray, List.set_cons_zero, List.set_cons_succ]; rfl
  refine Go.Proofs.YtodiohoiekkodaaDoorW.PrintLast.one_ (i := 11) (N := (some 24)) #[true, true, true, true, true, true, true, true, true, true, true, true, false, false, false, false, false, false, false, false, false, false, false, false] rfl rfl (by kernel_rfl) (by decide) (fun K hK => ?_)
  have HK := hK
  clear hK hHeld
  go_simp
  refine (fill1_x b 2 _ a1 _ hG.drew h1 HX.out (by simp)).mono ?_
  rintro e w3 ⟨rfl, hx3, ho3⟩
  rw [HU.out]
  have ho := (Only.refl b w).drew.trans ho3
  have e1 := ho.cell (p := ⟨g, 1, none⟩) hg d1
  have e2 := ho.cell (p := ⟨g, 2, none⟩) hg d2
  have HX3 := Lib.hid hx3
  clear ho3 hx3
  refine HK.out _ _ (⟨e1, e2⟩) (fun hHeld => ?_)
  clear HK
  try (simp only [Act.put, List.setIfInBounds_toArray, List.set_cons_zero, List.set_cons_succ])
  refine Go.Proofs.YtodiohoiekkodaaDoorW.PrintLast.pure_ (i := 12) (N := (some 25)) (v := ?_) (a' := ?_) #[true, true, true, true, true, true, true, true, true, true, true, true, true, false, false, false, false, false, false, false, false, false, false, false] rfl rfl (by kernel_rfl) (fun _ _ _ h => h) (Or.inl ⟨by rfl, ?_⟩) ?_ ?_
  rotate_left
  · intro w'; go_simp; try (with_reducible rfl)
  rotate_left
  · simp only [Act.put, List.setIfInBounds_toArray, List.set_cons_zero, List.set_cons_succ]; rfl
  refine Go.Proofs.YtodiohoiekkodaaDoorW.PrintLast.pure_ (i := 13) (N := (some 26)) (v := ?_) (a' := ?_) #[true, true, true, true, true, true, true, true, true, true, true, true, true, true, false, false, false, false, false, false, false, false, false, false] rfl rfl (by kernel_rfl) (fun _ _ _ h => h) (Or.inl ⟨by rfl, ?_⟩) ?_ ?_
  rotate_left
  · intro w'; go_simp; try (with_reducible rfl)
  rotate_left
  · simp only [Act.put, List.setIfInBounds_toArray, List.set_cons_zero, List.set_cons_succ]; rfl
  refine Go.Proofs.YtodiohoiekkodaaDoorW.PrintLast.pure_ (i := 14) (N := (some 27)) (v := ?_) (a' := ?_) #[true, true, true, true, true, true, true, true, true, true, true, true, true, true, true, false, false, false, false, false, false, false, false, false] rfl rfl (by kernel_rfl) (fun _ _ _ h => h) (Or.inl ⟨by rfl, ?_⟩) ?_ ?_
  rotate_left
  · intro w'; go_simp; try (with_reducible rfl)
  rotate_left
  · simp only [Act.put, List.setIfInBounds_toArray, List.set_cons_zero, List.set_cons_succ]; rfl
  refine Go.Proofs.YtodiohoiekkodaaDoorW.PrintLast.pure_ (i := 15) (N := (some 28)) (v := ?_) (a' := ?_) #[true, true, true, true, true, true, true, true, true, true, true, true, true, true, true, true, false, false, false, false, false, false, false, false] rfl rfl (by kernel_rfl) (fun _ _ _ h => h) (Or.inl ⟨by rfl, ?_⟩) ?_ ?_
  rotate_left
  · intro w'; go_simp; try (with_reducible rfl)
  rotate_left
  · simp only [Act.put, List.setIfInBounds_toArray, List.set_cons_zero, List.set_cons_succ]; rfl
  refine Go.Proofs.YtodiohoiekkodaaDoorW.PrintLast.pure_ (i := 16) (N := (some 29)) (v := ?_) (a' := ?_) #[true, true, true, true, true, true, true, true, true, true, true, true, true, true, true, true, true, false, false, false, false, false, false, false] rfl rfl (by kernel_rfl) (fun _ _ _ h => h) (Or.inl ⟨by rfl, ?_⟩) ?_ ?_
  rotate_left
  · intro w'; go_simp; try (with_reducible rfl)
  rotate_left
  · simp only [Act.put, List.setIfInBounds_toArray, List.set_cons_zero, List.set_cons_succ]; rfl
  refine Go.Proofs.YtodiohoiekkodaaDoorW.PrintLast.pure_ (i := 17) (N := (some 30)) (v := ?_) (a' := ?_) #[true, true, true, true, true, true, true, true, true, true, true, true, true, true, true, true, true, true, false, false, false, false, false, false] rfl rfl (by kernel_rfl) (fun _ _ _ h => h) (Or.inl ⟨by rfl, ?_⟩) ?_ ?_
  rotate_left
  · intro w'; go_simp; try (with_reducible rfl)
  rotate_left
  · simp only [Act.put, List.setIfInBounds_toArray, List.set_cons_zero, List.set_cons_succ]; rfl
  refine Go.Proofs.YtodiohoiekkodaaDoorW.PrintLast.pure_ (i := 18) (N := (some 31)) (v := ?_) (a' := ?_) #[true, true, true, true, true, true, true, true, true, true, true, true, true, true, true, true, true, true, true, false, false, false, false, false] rfl rfl (by kernel_rfl) (fun _ _ _ h => h) (Or.inl ⟨by rfl, ?_⟩) ?_ ?_
  rotate_left
  · intro w'; go_simp; try (with_reducible rfl)
  rotate_left
  · simp only [Act.put, List.setIfInBounds_toArray, List.set_cons_zero, List.set_cons_succ]; rfl
  refine Go.Proofs.YtodiohoiekkodaaDoorW.PrintLast.pure_ (i := 19) (N := (some 32)) (v := ?_) (a' := ?_) #[true, true, true, true, true, true, true, true, true, true, true, true, true, true, true, true, true, true, true, true, false, false, false, false] rfl rfl (by kernel_rfl) (fun _ _ _ h => h) (Or.inl ⟨by rfl, ?_⟩) ?_ ?_
  rotate_left
  · intro w'; go_simp; try (with_reducible rfl)
  rotate_left
  · simp only [Act.put, List.setIfInBounds_toArray, List.set_cons_zero, List.set_cons_succ]; rfl
  refine Go.Proofs.YtodiohoiekkodaaDoorW.PrintLast.take_ (i := 20) (N := (some 33)) (v := ?_) (a' := ?_) #[true, true, true, true, true, true, true, true, true, true, true, true, true, true, true, true, true, true, true, true, true, false, false, false] rfl rfl (by kernel_rfl) (fun _ _ _ h => h) (Or.inl ⟨by rfl, ?_⟩) hHeld ?_ ?_
  rotate_left
  · intro w' hh; (try obtain ⟨s0, s1, s2, s3, s4, s5, s6, s7⟩ := hh); (try obtain ⟨s0, s1, s2, s3, s4, s5, s6⟩ := hh); (try obtain ⟨s0, s1, s2, s3, s4, s5⟩ := hh); (try obtain ⟨s0, s1, s2, s3, s4⟩ := hh); (try obtain ⟨s0, s1, s2, s3⟩ := hh); (try obtain ⟨s0, s1, s2⟩ := hh); (try obtain ⟨s0, s1⟩ := hh); go_simp; try (with_reducible rfl)
  rotate_left
  · simp only [Act.put, List.setIfInBounds_toArray, List.set_cons_zero, List.set_cons_succ]; rfl
  refine Go.Proofs.YtodiohoiekkodaaDoorW.PrintLast.one_ (i := 21) (N := (some 34)) #[true, true, true, true, true, true, true, true, true, true, true, true, true, true, true, true, true, true, true, true, true, true, false, false] rfl rfl (by kernel_rfl) (by decide) (fun K hK => ?_)
  have HK := hK
  clear hK hHeld
  go_simp
  refine (fill1_x b 3 _ a2 _ (hG.on8 ho hb8) h2 HX3.out (by simp)).mono ?_
  rintro e w4 ⟨rfl, hx4, ho4⟩
  have ho5 := ho.trans ho4
  have f1 := ho5.cell (p := ⟨g, 1, none⟩) hg d1
  have f2 := ho5.cell (p := ⟨g, 2, none⟩) hg d2
  have HX4 := Lib.hid hx4
  clear ho4 hx4
  refine HK.out _ _ (⟨f1, f2⟩) (fun hHeld => ?_)
  clear HK
  try (simp only [Act.put, List.setIfInBounds_toArray, List.set_cons_zero, List.set_cons_succ])
  refine Go.Proofs.YtodiohoiekkodaaDoorW.PrintLast.pure_ (i := 22) (N := (some 35)) (v := ?_) (a' := ?_) #[true, true, true, true, true, true, true, true, true, true, true, true, true, true, true, true, true, true, true, true, true, true, true, false] rfl rfl (by kernel_rfl) (fun _ _ _ h => h) (Or.inl ⟨by rfl, ?_⟩) ?_ ?_
  rotate_left
  · intro w'; go_simp; try (with_reducible rfl)
  rotate_left
  · simp only [Act.put, List.setIfInBounds_toArray, List.set_cons_zero, List.set_cons_succ]; rfl
  refine Go.Proofs.YtodiohoiekkodaaDoorW.PrintLast.pure_ (i := 23) (N := (some 4)) (v := ?_) (a' := ?_) #[true, true, true, true, true, true, true, true, true, true, true, true, true, true, true, true, true, true, true, true, true, true, true, true] rfl rfl (by kernel_rfl) (fun _ _ _ h => h) (Or.inl ⟨by rfl, ?_⟩) ?_ ?_
  rotate_left
  · intro w'; go_simp; try (with_reducible rfl)
  rotate_left
  · simp only [Act.put, List.setIfInBounds_toArray, List.set_cons_zero, List.set_cons_succ]; rfl
  refine Go.Proofs.YtodiohoiekkodaaDoorW.PrintLast.done_ (by kernel_rfl) ?_
  go_wp2
  go_ret
  exact ⟨rfl, HX4.out, ho5⟩

end Go.Proofs.YtodiohoiekkodaaDoor.Op
end
