/- Contracts of strings.Builder's writing methods at this translation: at a builder that the call itself has made. Plain mathematics of words (layer 19): a text as a word, a word as a text. No program in sight. The walk of op.Word: whatever the text, its word. -/
import Derived.Test.YtodiohoiekkodaaDoorProg
import Derived.Lib.Strings
import Derived.Lib.Builder
import Derived.Lib.AppendStr
import Derived.Lib.UnsafeStr
import Derived.Deep.Draws
import Derived.Lib.Hide
import Derived.WalkKit
import Derived.Laws.Externs
import Derived.Laws.IdiomCopy
import Derived.Lib.Itoa
import Derived.Test.YtodiohoiekkodaaDoorMa1
import Derived.Laws.IdiomStrings
section
set_option linter.unusedVariables false
namespace Go.Proofs.YtodiohoiekkodaaDoor.Bd
open Go.RowKit

/-- Below block R, and apart from block b, nothing has turned. -/
structure Keeps (R b : Nat) (w w' : World) : Prop where
  os : w'.os = w.os
  tape : w'.tape = w.tape
  output : w'.output = w.output
  size : w.heap.size ≤ w'.heap.size
  block : ∀ k, k < R → k ≠ b → w'.heap[k]? = w.heap[k]?
theorem Keeps.refl (R b : Nat) (w : World) : Keeps R b w w := ⟨rfl, rfl, rfl, Nat.le_refl _, fun _ _ _ => rfl⟩
theorem Keeps.trans {R b : Nat} {u v w : World} (h : Keeps R b u v) (k : Keeps R b v w) : Keeps R b u w :=
  ⟨k.os.trans h.os, k.tape.trans h.tape, k.output.trans h.output, Nat.le_trans h.size k.size, fun i hi hne => (k.block i hi hne).trans (h.block i hi hne)⟩
theorem Keeps.drew {R b : Nat} {u w : World} (h : Keeps R b u w) : Keeps R b u w.drew := ⟨h.os, h.tape, h.output, h.size, h.block⟩
theorem Keeps.drewN {R b : Nat} {u w : World} (h : Keeps R b u w) (n : Nat) : Keeps R b u (w.drewN n) := ⟨h.os, h.tape, h.output, h.size, h.block⟩
theorem Keeps.of_below {R b : Nat} {u w : World} (h : Below R u w) : Keeps R b u w := ⟨h.os, h.tape, h.output, h.size, fun k hk _ => h.block k hk⟩
/-- What lies below the builder itself is as it was. -/
theorem Keeps.below {R b : Nat} {u w : World} (h : Keeps R b u w) (hb : b < R) : Below b u w := ⟨h.os, h.tape, h.output, h.size, fun k hk => h.block k (by omega) (by omega)⟩
theorem Keeps.setCell {R b : Nat} {u w : World} (h : Keeps R b u w) {p : Addr} (hp : p.block = b) (x : Value) : Keeps R b u (w.setCell p x) :=
  h.trans ⟨rfl, rfl, rfl, by simp [World.setCell], fun k _ hne => Below.heap_setCell _ _ _ _ (by rw [hp]; exact hne)⟩
theorem Keeps.alloc {R b : Nat} {u w : World} (h : Keeps R b u w) (hR : R ≤ w.heap.size) (o : Obj) : Keeps R b u (w.alloc o) :=
  h.trans ⟨rfl, rfl, rfl, by simp, fun k hk _ => Below.heap_alloc _ _ _ (by omega)⟩
theorem Keeps.grown {R b : Nat} {u w w' : World} {row : Option Nat} (h : Keeps R b u w) (hg : w.grownBy w' row) (hR : R ≤ w.heap.size) (hr : ∀ k, row = some k → R ≤ k) : Keeps R b u w' :=
  h.trans ⟨hg.os, hg.tape, hg.output, hg.size, fun k hk _ => hg.block k (by omega) (fun e => by have := hr k e.symm; omega)⟩

/-- A builder in block b that holds the bytes l; its row lies at R or beyond. -/
def Bd (R b : Nat) (l : List UInt8) (w : World) : Prop :=
  b < R ∧ ∃ p v, (p = .pointer none ∨ p = .pointer (some ⟨b, 0, none⟩)) ∧ w.heap[b]? = some (.cells #[p, v] 76 (0, 0)) ∧ w.ownsRow R 5 1 v l.length (Lib.byteCells l)
theorem Bd.new (w : World) (R : Nat) (hR : w.heap.size < R) : Bd R w.heap.size [] (w.alloc (.cells #[.pointer none, .slice none 0 0] 76)) :=
  ⟨hR, .pointer none, .slice none 0 0, .inl rfl, by show (w.heap.push _)[w.heap.size]? = _; simp, by simp [World.ownsRow, Lib.byteCells]⟩
theorem Bd.lt {R b : Nat} {l : List UInt8} {w : World} (h : Bd R b l w) : b < w.heap.size := by
  obtain ⟨_, p, v, _, hk, _⟩ := h
  rcases Nat.lt_or_ge b w.heap.size with h' | h'
  · exact h'
  · simp [Array.getElem?_eq_none h'] at hk
theorem Bd.drew {R b : Nat} {l : List UInt8} {w : World} (h : Bd R b l w) : Bd R b l w.drew := h
theorem Bd.alloc {R b : Nat} {l : List UInt8} {w : World} (h : Bd R b l w) (o : Obj) : Bd R b l (w.alloc o) := by
  have hlt := h.lt
  obtain ⟨hR, p, v, hp, hk, hown⟩ := h
  exact ⟨hR, p, v, hp, (Below.heap_alloc w o b hlt).trans hk, hown.alloc _⟩
theorem Bd.below {R b B : Nat} {l : List UInt8} {w w' : World} (h : Bd R b l w) (hB : w.heap.size ≤ B) (hb : Below B w w') : Bd R b l w' := by
  have hlt := h.lt
  obtain ⟨hR, p, v, hp, hk, hown⟩ := h
  refine ⟨hR, p, v, hp, (hb.block b (by omega)).trans hk, hown.1, ?_⟩
  rcases hown.2 with h | ⟨g, cap, cur, h1, h2, h3, h4⟩
  · exact .inl h
  · refine .inr ⟨g, cap, cur, h1, h2, (hb.block g ?_).trans h3, h4⟩
    rcases Nat.lt_or_ge g w.heap.size with h' | h'
    · omega
    · simp [Array.getElem?_eq_none h'] at h3
theorem Bd.isBuilder {R b : Nat} {l : List UInt8} {w : World} (h : Bd R b l w) : Lib.IsBuilder 76 5 b b (Lib.byteCells l) w := by
  obtain ⟨hR, p, v, hp, hk, hown⟩ := h
  have hown' : w.ownsRow b 5 1 v (Lib.byteCells l).length (Lib.byteCells l) := by
    rw [Lib.byteCells_length]
    refine ⟨hown.1, ?_⟩
    rcases hown.2 with h | ⟨g, cap, cur, h1, h2, h3⟩
    · exact .inl h
    · exact .inr ⟨g, cap, cur, h1, by omega, h3⟩
  have hne : v.ownBlock ≠ some b := by
    rcases hown.2 with ⟨rfl, _⟩ | ⟨g, cap, cur, rfl, h2, _⟩
    · simp [Value.ownBlock]
    · simp [Value.ownBlock]; omega
  rcases hp with rfl | rfl
  · exact .inl ⟨Nat.le_refl _, v, hk, hown', hne⟩
  · exact .inr ⟨Nat.le_refl _, v, hk, hown', hne⟩

theorem infoB : (Tryd.prog.info? 76).map (·.size) = some 2 := by kernel_rfl
theorem liesB : liesAt Tryd.prog Tryd.prog.depth 76 (2 / Tryd.prog.cellsOf 76) 0 76 1 = true := by kernel_rfl
theorem infoByte : (Tryd.prog.info? 5).map (fun i => (i.zero, i.size, i.bytes)) = some (some (.int .u8 0), 1, 1) := by kernel_rfl

set_option maxHeartbeats 1000000 in
set_option maxRecDepth 100000 in
theorem copyCheck_used (b : Nat) (w : World) (h0 : w.cell? ⟨b, 0, none⟩ = some (.pointer (some ⟨b, 0, none⟩))) :
    Calls Tryd.prog 66 #[.pointer (some ⟨b, 0, none⟩)] w fun e w' => e = .returned (.tuple #[]) ∧ w' = w := by
  obtain ⟨j, hj, _⟩ := Option.map_eq_some_iff.1 infoB
  go_enter Tryd.func66, Tryd.ntmps66
  go_wp2
  rw [Lib.run_neq_ptr_same w _ Tryd.underlying73 hj]
  go_wp2
  go_end0
  exact ⟨rfl, rfl⟩

set_option maxHeartbeats 1000000 in
set_option maxRecDepth 100000 in
theorem copyCheck_fresh (b : Nat) (w : World) (h0 : w.cell? ⟨b, 0, none⟩ = some (.pointer none)) (hsh : w.shape? b = some (76, 2)) (hfz : w.frozen? ⟨b, 0, none⟩ = false) :
    Calls Tryd.prog 66 #[.pointer (some ⟨b, 0, none⟩)] w fun e w' => e = .returned (.tuple #[]) ∧ w' = w.setCell ⟨b, 0, none⟩ (.pointer (some ⟨b, 0, none⟩)) := by
  obtain ⟨j, hj, hjs⟩ := Option.map_eq_some_iff.1 infoB
  go_enter Tryd.func66, Tryd.ntmps66
  go_wp2
  rw [Lib.run_to_unsafe w ⟨b, 0, none⟩ Tryd.underlying73 Tryd.underlying122 hj (by rw [hjs]; decide) hsh (Nat.zero_lt_succ 1)]
  simp only [Result.andThen]
  rw [Oper.upon_value]
  go_wp2
  rw [run_callFunc_extern Tryd.func84 (by kernel_rfl) (by kernel_rfl) (by kernel_rfl) (e := Extern.AbiNoEscape.same) (by kernel_rfl)]
  rw [Lib.run_noEscape]
  simp only [Result.andThen]
  rw [Oper.upon_value]
  go_wp2
  rw [Lib.run_from_unsafe w ⟨b, 0, none⟩ Tryd.underlying122 Tryd.underlying73 hj hsh liesB]
  simp only [Result.andThen]
  rw [Oper.upon_value]
  go_wp2
  go_end0
  exact ⟨rfl, rfl⟩

theorem copyCheck (R b : Nat) (l : List UInt8) (w : World) (h : Bd R b l w) :
    Calls Tryd.prog 66 #[.pointer (some ⟨b, 0, none⟩)] w fun e w' => e = .returned (.tuple #[]) ∧
      ((b < R ∧ ∃ v, w'.heap[b]? = some (.cells #[.pointer (some ⟨b, 0, none⟩), v] 76 (0, 0)) ∧ w'.ownsRow R 5 1 v l.length (Lib.byteCells l)) ∧ Keeps R b w w') := by
  obtain ⟨hR, p, v, hp, hk, hown⟩ := h
  rcases hp with rfl | rfl
  · refine (copyCheck_fresh b w (by rw [Lib.cell_of_heap hk]; rfl) (by simp [World.shape?, hk]) (Lib.frozen_of_heap hk 0)).mono ?_
    rintro e w' ⟨rfl, rfl⟩
    refine ⟨rfl, ⟨hR, v, ?_, ?_⟩, (Keeps.refl R b w).setCell (p := ⟨b, 0, none⟩) rfl _⟩
    · simp only [World.setCell, Array.getElem?_modify, if_true, hk]; rfl
    · refine ⟨hown.1, ?_⟩
      rcases hown.2 with h | ⟨g, cap, cur, h1, h2, h3, h4⟩
      · exact .inl h
      · exact .inr ⟨g, cap, cur, h1, h2, (Below.heap_setCell w ⟨b, 0, none⟩ _ g (by simp; omega)).trans h3, h4⟩
  · refine (copyCheck_used b w (by rw [Lib.cell_of_heap hk]; rfl)).mono ?_
    rintro e w' ⟨rfl, rfl⟩
    exact ⟨rfl, ⟨hR, v, hk, hown⟩, Keeps.refl R b _⟩

/-- The row's new value stored into the builder's second cell. -/
theorem put_row {R b : Nat} {l : List UInt8} {v v' : Value} {w : World} (hR : b < R) (hk : w.heap[b]? = some (.cells #[.pointer (some ⟨b, 0, none⟩), v] 76 (0, 0))) (hown : w.ownsRow R 5 1 v' l.length (Lib.byteCells l)) :
    Bd R b l (w.setCell ⟨b, 1, none⟩ v') := by
  refine ⟨hR, _, v', .inr rfl, by simp only [World.setCell, Array.getElem?_modify, if_true, hk]; rfl, hown.1, ?_⟩
  rcases hown.2 with h | ⟨g, cap, cur, h1, h2, h3, h4⟩
  · exact .inl h
  · exact .inr ⟨g, cap, cur, h1, h2, (Below.heap_setCell w ⟨b, 1, none⟩ _ g (by simp; omega)).trans h3, h4⟩

set_option maxHeartbeats 2000000 in
set_option maxRecDepth 100000 in
theorem writeByte (R b : Nat) (l : List UInt8) (c : UInt8) (n : Int) (w : World) (hn : n = c.toNat) (h : Bd R b l w) (hlen : l.length + 1 ≤ 140737488355328) (hRw : R ≤ w.heap.size) :
    Calls Tryd.prog 58 #[.pointer (some ⟨b, 0, none⟩), .int .u8 n] w fun e w' => e = .returned .nilIface ∧ (Bd R b (l ++ [c]) w' ∧ Keeps R b w w') := by
  obtain ⟨i0, hi, hz0, hz1, hz2⟩ := info_parts infoByte
  have Hn := Lib.hid hn
  clear hn
  go_enter Tryd.func58, Tryd.ntmps58
  go_wp2_with (go_at_call 66; refine (copyCheck R b l _ h).mono ?_)
  rintro e w1 ⟨rfl, ⟨hR, v, hbk, hown⟩, hk1⟩
  have hs1 := hk1.size
  have hlt : b < w1.heap.size := by omega
  have c0 : w1.cell? ⟨b, 0, none⟩ = some (.pointer (some ⟨b, 0, none⟩)) := by rw [Lib.cell_of_heap hbk]; rfl
  have c1 : w1.cell? ⟨b, 1, none⟩ = some v := by rw [Lib.cell_of_heap hbk]; rfl
  go_wp2_with (at_builtin; refine wpList_append_own _ rfl _ _ 74 rfl R 5 i0 (.int .u8 0) 1 1 Tryd.underlying74 hi hz0 hz1 hz2 rfl (by decide) _ _ _ rfl (hown.alloc _) ⟨w1.heap.size, 0, none⟩ 1 1 [.int .u8 n] rfl rfl ?c1 ?c2 ?c3 ?c4 ?c5 ?_)
  case c1 =>
    intro j u hj
    match j, hj with
    | 0, hj => simp at hj; subst hj; simp [Addr.add]
  case c2 => intro u hu; simp at hu; subst hu; rfl
  case c3 => unfold maxLen; omega
  case c4 => omega
  case c5 => simp; omega
  intro v' w2 hown' hgrow _
  have hne : ∀ k, v.ownBlock = some k → R ≤ k := fun k hk => (hown.lt k hk).1
  have hb2 : w2.heap[b]? = some (.cells #[.pointer (some ⟨b, 0, none⟩), v] 76 (0, 0)) := by
    rw [hgrow.block b (by simp; omega) (fun e => by have := hne b e.symm; omega), Lib.alloc_old w1 _ b hlt]
    exact hbk
  have d0 : w2.cell? ⟨b, 0, none⟩ = some (.pointer (some ⟨b, 0, none⟩)) := by rw [Lib.cell_of_heap hb2]; rfl
  have d1 : w2.cell? ⟨b, 1, none⟩ = some v := by rw [Lib.cell_of_heap hb2]; rfl
  have f1 : w2.frozen? ⟨b, 1, none⟩ = false := Lib.frozen_of_heap hb2 1
  obtain ⟨g, cap, rfl⟩ : ∃ g cap, v' = .slice (some ⟨g, 0, none⟩) (l.length + 1) cap := by
    rcases hown'.2 with ⟨_, h0⟩ | ⟨g, cap, cur, hv, _⟩
    · omega
    · exact ⟨g, cap, hv⟩
  go_wp2
  go_ret
  refine ⟨rfl, ?_, ?_⟩
  · refine put_row hR hb2 ?_
    have e : Lib.byteCells (l ++ [c]) = Lib.byteCells l ++ [.int .u8 n] := by rw [Hn.out]; simp [Lib.byteCells]
    rw [e, List.length_append]
    exact hown'
  · exact ((hk1.alloc (by omega) _).grown hgrow (by simp; omega) hne).setCell (p := ⟨b, 1, none⟩) rfl _

set_option maxHeartbeats 2000000 in
set_option maxRecDepth 100000 in
theorem writeString (R b : Nat) (l : List UInt8) (s : ByteArray) (w : World) (h : Bd R b l w) (hlen : l.length + s.size ≤ 140737488355328) (hRw : R ≤ w.heap.size) :
    Calls Tryd.prog 43 #[.pointer (some ⟨b, 0, none⟩), .string s] w fun e w' => e = .returned (.tuple #[.int .i64 s.size, .nilIface]) ∧ (Bd R b (l ++ s.data.toList) w' ∧ Keeps R b w w') := by
  obtain ⟨i0, hi, hz0, hz1, hz2⟩ := info_parts infoByte
  go_enter Tryd.func43, Tryd.ntmps43
  go_wp2_with (go_at_call 66; refine (copyCheck R b l _ h).mono ?_)
  rintro e w1 ⟨rfl, ⟨hR, v, hbk, hown⟩, hk1⟩
  have hs1 := hk1.size
  have hlt : b < w1.heap.size := by omega
  have c0 : w1.cell? ⟨b, 0, none⟩ = some (.pointer (some ⟨b, 0, none⟩)) := by rw [Lib.cell_of_heap hbk]; rfl
  have c1 : w1.cell? ⟨b, 1, none⟩ = some v := by rw [Lib.cell_of_heap hbk]; rfl
  go_wp2_with (at_builtin; refine Lib.wpList_append_own_string _ rfl _ _ 74 9 rfl R 5 i0 Tryd.underlying74 Tryd.underlying9 hi hz0 hz1 hz2 _ _ _ rfl hown s rfl ?c3 ?c4 ?c5 ?_)
  case c3 => unfold maxLen; omega
  case c4 => omega
  case c5 => omega
  intro v' w2 hown' hgrow _
  have hne : ∀ k, v.ownBlock = some k → R ≤ k := fun k hk => (hown.lt k hk).1
  have hb2 : w2.heap[b]? = some (.cells #[.pointer (some ⟨b, 0, none⟩), v] 76 (0, 0)) := by
    rw [hgrow.block b hlt (fun e => by have := hne b e.symm; omega)]
    exact hbk
  have d0 : w2.cell? ⟨b, 0, none⟩ = some (.pointer (some ⟨b, 0, none⟩)) := by rw [Lib.cell_of_heap hb2]; rfl
  have d1 : w2.cell? ⟨b, 1, none⟩ = some v := by rw [Lib.cell_of_heap hb2]; rfl
  have f1 : w2.frozen? ⟨b, 1, none⟩ = false := Lib.frozen_of_heap hb2 1
  obtain ⟨ao, n', cap, rfl⟩ : ∃ ao n' cap, v' = .slice ao n' cap := by
    rcases hown'.2 with ⟨hv, _⟩ | ⟨g, cap, cur, hv, _⟩
    · exact ⟨_, _, _, hv⟩
    · exact ⟨_, _, _, hv⟩
  go_wp2
  go_ret2
  refine ⟨rfl, ?_, ?_⟩
  · refine put_row hR hb2 ?_
    have e : Lib.byteCells (l ++ s.data.toList) = Lib.byteCells l ++ Lib.strCells s := by simp [Lib.byteCells, Lib.strCells]
    have e2 : (l ++ s.data.toList).length = l.length + s.size := by rw [List.length_append]; rfl
    rw [e, e2]
    exact hown'
  · exact (hk1.grown hgrow (by omega) hne).setCell (p := ⟨b, 1, none⟩) rfl _

end Go.Proofs.YtodiohoiekkodaaDoor.Bd
end

section
namespace Go.Proofs.YtodiohoiekkodaaDoor.Sp

abbrev Bs := List UInt8

def plainB (c : UInt8) : Bool := decide (33 ≤ c.toNat) && decide (c.toNat ≤ 126) && decide (c.toNat ≠ 37)
def hexd (n : Nat) : UInt8 := if n < 10 then UInt8.ofNat (48 + n) else UInt8.ofNat (87 + n)
def encB (c : UInt8) : Bs := if plainB c then [c] else [37, hexd (c.toNat / 16), hexd (c.toNat % 16)]
/-- The word of a text. -/
def wordL (l : Bs) : Bs := if l = [] then [37] else l.flatMap encB

def unhex (c : UInt8) : Option Nat :=
  if 48 ≤ c.toNat ∧ c.toNat ≤ 57 then some (c.toNat - 48)
  else if 97 ≤ c.toNat ∧ c.toNat ≤ 102 then some (c.toNat - 87)
  else if 65 ≤ c.toNat ∧ c.toNat ≤ 70 then some (c.toNat - 55) else none
/-- The bytes that a word tells, if it can be read at all. -/
def unw : Bs → Option Bs
  | [] => some []
  | c :: r => if c.toNat = 37 then
      match r with
      | a :: b :: t => match unhex a, unhex b with
        | some x, some y => (unw t).map (UInt8.ofNat (16 * x + y) :: ·)
        | _, _ => none
      | _ => none
    else (unw r).map (c :: ·)
/-- The text of a word, as the program tells it: read, and held against its own word. -/
def unwordL (w : Bs) : Option Bs :=
  if w = [37] then some [] else (unw w).bind fun s => if wordL s = w then some s else none

theorem unhex_hexd (n : Nat) (h : n < 16) : unhex (hexd n) = some n := by
  have : ∀ p : Fin 16, unhex (hexd p.val) = some p.val := by decide
  exact this ⟨n, h⟩

theorem unw_plain (c : UInt8) (t : Bs) (h : c.toNat ≠ 37) : unw (c :: t) = (unw t).map (c :: ·) := by
  rcases t with _ | ⟨a, _ | ⟨b, t⟩⟩ <;> simp [unw, h]
theorem unw_mark (a b : UInt8) (t : Bs) (x y : Nat) (hx : unhex a = some x) (hy : unhex b = some y) : unw (37 :: a :: b :: t) = (unw t).map (UInt8.ofNat (16 * x + y) :: ·) := by
  simp [unw, hx, hy]
theorem unw_mark_bad (a b : UInt8) (t : Bs) (h : unhex a = none ∨ unhex b = none) : unw (37 :: a :: b :: t) = none := by
  rcases h with h | h
  · simp [unw, h]
  · cases hx : unhex a <;> simp [unw, h, hx]
theorem unw_mark_short (t : Bs) (h : t.length < 2) : unw (37 :: t) = none := by
  rcases t with _ | ⟨a, _ | ⟨b, t⟩⟩
  · simp [unw]
  · simp [unw]
  · simp at h; omega

theorem encB_unw (c : UInt8) (t : Bs) : unw (encB c ++ t) = (unw t).map (c :: ·) := by
  unfold encB
  split
  · rename_i h
    have h37 : c.toNat ≠ 37 := by simp [plainB] at h; exact h.2
    exact unw_plain c t h37
  · have hc := c.toNat_lt
    have h1 := unhex_hexd (c.toNat / 16) (by omega)
    have h2 := unhex_hexd (c.toNat % 16) (by omega)
    have e : 16 * (c.toNat / 16) + c.toNat % 16 = c.toNat := by omega
    show unw (37 :: hexd (c.toNat / 16) :: hexd (c.toNat % 16) :: t) = _
    rw [unw_mark _ _ _ _ _ h1 h2, e]
    simp

theorem unw_flatMap (l : Bs) : unw (l.flatMap encB) = some l := by
  induction l with
  | nil => rfl
  | cons c r ih => rw [List.flatMap_cons, encB_unw, ih]; rfl

theorem wordL_ne_nil (l : Bs) : wordL l ≠ [] := by
  unfold wordL
  split
  · simp
  · rename_i h
    obtain ⟨c, r, rfl⟩ := List.exists_cons_of_ne_nil h
    rw [List.flatMap_cons]
    unfold encB; split <;> simp

theorem flatMap_ne_mark (l : Bs) (h : l ≠ []) : l.flatMap encB ≠ [37] := by
  obtain ⟨c, r, rfl⟩ := List.exists_cons_of_ne_nil h
  rw [List.flatMap_cons]
  unfold encB; split
  · rename_i hp
    intro e
    simp at e
    simp [plainB] at hp
    exact hp.2 (by rw [e.1]; rfl)
  · simp

theorem unwordL_iff (w s : Bs) : unwordL w = some s ↔ wordL s = w := by
  unfold unwordL
  constructor
  · intro h
    split at h
    · rename_i hw
      obtain rfl := Option.some.inj h
      rw [hw]; rfl
    · obtain ⟨t, ht, h⟩ := Option.bind_eq_some_iff.1 h
      split at h
      · rename_i hw
        obtain rfl := Option.some.inj h
        exact hw
      · cases h
  · rintro rfl
    by_cases hs : s = []
    · subst hs; rfl
    · have e : wordL s = s.flatMap encB := by simp [wordL, hs]
      rw [if_neg (by rw [e]; exact flatMap_ne_mark s hs), e, unw_flatMap]
      simp [e]

theorem unwordL_wordL (s : Bs) : unwordL (wordL s) = some s := (unwordL_iff _ _).2 rfl
theorem wordL_inj {s t : Bs} (h : wordL s = wordL t) : s = t := by
  have a := unwordL_wordL s
  rw [h, unwordL_wordL] at a
  exact (Option.some.inj a).symm

theorem encB_length (c : UInt8) : (encB c).length ≤ 3 := by unfold encB; split <;> simp
theorem wordL_length (l : Bs) : (wordL l).length ≤ 3 * l.length + 1 := by
  unfold wordL
  split
  · simp
  · have : (l.flatMap encB).length ≤ 3 * l.length := by
      induction l with
      | nil => simp
      | cons c r ih =>
        have := encB_length c
        rw [List.flatMap_cons, List.length_append, List.length_cons]
        by_cases hr : r = []
        · subst hr; simp; omega
        · have := ih hr
          omega
    omega
/-- No blank stands in a word. -/
theorem encB_no (c : UInt8) : ∀ x ∈ encB c, 33 ≤ x.toNat ∧ x.toNat ≤ 126 := by
  unfold encB
  split
  · rename_i h
    simp [plainB] at h
    simp; omega
  · have : ∀ p : Fin 16, 33 ≤ (hexd p.val).toNat ∧ (hexd p.val).toNat ≤ 126 := by decide
    have hc := c.toNat_lt
    have h1 := this ⟨c.toNat / 16, by omega⟩
    have h2 := this ⟨c.toNat % 16, by omega⟩
    intro x hx
    simp at hx
    rcases hx with rfl | rfl | rfl
    · decide
    · exact h1
    · exact h2
theorem wordL_no (l : Bs) : ∀ x ∈ wordL l, 33 ≤ x.toNat ∧ x.toNat ≤ 126 := by
  unfold wordL
  split
  · intro x hx; simp at hx; subst hx; decide
  · intro x hx
    obtain ⟨c, _, h⟩ := List.mem_flatMap.1 hx
    exact encB_no c x h

end Go.Proofs.YtodiohoiekkodaaDoor.Sp
end

section
set_option linter.unusedVariables false
namespace Go.Proofs.YtodiohoiekkodaaDoor.Op
open Go.RowKit Go.Proofs.YtodiohoiekkodaaDoor.Bd Go.Proofs.YtodiohoiekkodaaDoor.Sp

abbrev ba (l : List UInt8) : ByteArray := ⟨l.toArray⟩
theorem bytes_toList (s : ByteArray) : s.toList = s.data.toList := ByteArray.toList_eq s
def wordB (s : ByteArray) : ByteArray := ba (wordL s.data.toList)

set_option maxHeartbeats 1000000 in
set_option maxRecDepth 100000 in
theorem word_empty (w : World) :
    Calls Tryd.prog 32 #[.string ⟨#[]⟩] w fun e w' => e = .returned (.string ⟨#[37]⟩) ∧ Below w.heap.size w w' := by
  go_enter Tryd.func32, Tryd.ntmps32
  go_wp2
  go_ret
  exact ⟨rfl, Below.refl _ _⟩

theorem encs_succ (l : Bs) (k : Nat) (h : k < l.length) : (l.take (k + 1)).flatMap encB = (l.take k).flatMap encB ++ encB l[k] := by
  rw [List.take_succ_eq_append_getElem h]; simp only [List.flatMap_append, List.flatMap_cons, List.flatMap_nil, List.append_nil]
theorem encs_le (l : Bs) (k : Nat) : ((l.take k).flatMap encB).length ≤ 3 * k := by
  have h : ∀ m : Bs, (m.flatMap encB).length ≤ 3 * m.length := by
    intro m
    induction m with
    | nil => simp
    | cons c r ih => have := encB_length c; rw [List.flatMap_cons, List.length_append, List.length_cons]; omega
  have := h (l.take k)
  have h2 : (l.take k).length ≤ k := List.length_take_le _ _
  omega

theorem dig_at (n : Nat) (h : n < (⟨#[48, 49, 50, 51, 52, 53, 54, 55, 56, 57, 97, 98, 99, 100, 101, 102]⟩ : ByteArray).size) :
    (⟨#[48, 49, 50, 51, 52, 53, 54, 55, 56, 57, 97, 98, 99, 100, 101, 102]⟩ : ByteArray)[n]'h = hexd n := by
  have : ∀ p : Fin 16, (⟨#[48, 49, 50, 51, 52, 53, 54, 55, 56, 57, 97, 98, 99, 100, 101, 102]⟩ : ByteArray)[p.val]'p.isLt = hexd p.val := by decide
  exact this ⟨n, h⟩

set_option maxHeartbeats 4000000 in
set_option maxRecDepth 100000 in
theorem word_some (s : ByteArray) (w : World) (hs : s.size ≤ 1000000) (h0 : 0 < s.size) :
    Calls Tryd.prog 32 #[.string s] w fun e w' => e = .returned (.string (wordB s)) ∧ Below w.heap.size w w' := by
  have hcv := fun w s => run_bytes_of_string (P := Tryd.prog) w 9 74 5 s Tryd.underlying9 Tryd.underlying74 Tryd.underlying5
  have hne : s.toList.isEmpty = false := by rw [bytes_toList]; cases h : s.data.toList with
    | nil => have : s.data.toList.length = s.size := rfl; rw [h] at this; simp at this; omega
    | cons _ _ => rfl
  go_enter Tryd.func32, Tryd.ntmps32
  go_wp2
  generalize hcap : grownCap (w.alloc (Obj.cells #[Value.pointer none, Value.slice none 0 0] 76)) s.size 0 5 = cap
  clear hcap
  go_loopw [11] (fun i wr => ∃ k : Nat, k ≤ s.size ∧ i = .int .i64 k ∧ Bd (w.heap.size + 2) w.heap.size ((s.data.toList.take k).flatMap encB) wr ∧ wr.heap[w.heap.size + 1]? = some (.cells (bytesRow s cap) 5 ((bytesRow s cap).size, (bytesRow s cap).size + 1)) ∧ w.heap.size + 2 ≤ wr.heap.size ∧ Below w.heap.size w wr) (fun i _ => s.size - (intOf i).toNat)
  case atStart =>
    refine ⟨0, Nat.zero_le _, rfl, ?_, ?_, ?_, ?_⟩
    · exact ((Bd.new w (w.heap.size + 2) (by omega)).alloc _).drew
    · have e : w.heap.size + 1 = (w.alloc (Obj.cells #[Value.pointer none, Value.slice none 0 0] 76)).heap.size := by simp
      rw [e]
      exact heap_alloc_new _ _
    · simp
    · exact (((Below.refl _ w).alloc (Nat.le_refl _) _).alloc (by simp) _).drew
  case round =>
    obtain ⟨k, hk, rfl, hB, hrow, hsz, hbel⟩ := hrel
    by_cases hlt : k < s.size
    · have hc : wr.cell? ⟨w.heap.size + 1, k, none⟩ = some (.int .u8 (s.data[k]'hlt).toNat) := by
        rw [Lib.cell_of_heap hrow]; exact bytesRow_at s cap k hlt
      have hlen := encs_le s.data.toList k
      have hsucc : (s.data.toList.take (k + 1)).flatMap encB = (s.data.toList.take k).flatMap encB ++ encB (s.data[k]'hlt) := encs_succ s.data.toList k hlt
      have HS := Lib.hid hsucc
      clear hsucc
      generalize (s.data[k]'hlt) = c at *
      generalize hl : (s.data.toList.take k).flatMap encB = l at *
      clear hl
      have hb := c.toNat_lt
      by_cases hp : plainB c = true
      · have hpp : 33 ≤ c.toNat ∧ c.toNat ≤ 126 ∧ c.toNat ≠ 37 := by simpa [plainB, and_assoc] using hp
        obtain ⟨h1, h2, h3⟩ := hpp
        have t1 : decide ((32 : Int) < (c.toNat : Int)) = true := decide_eq_true (by omega)
        have t2 : decide ((c.toNat : Int) < 127) = true := decide_eq_true (by omega)
        have t3 : ((c.toNat : Int) != 37) = true := by simp; omega
        have he : encB c = [c] := by simp [encB, hp]
        have HE := Lib.hid he
        clear he h1 h2 h3 hp
        go_wp2_with fail
        refine (writeByte _ _ _ c _ _ rfl hB (by omega) hsz).mono ?_
        rintro e w2 ⟨rfl, hB2, hK2⟩
        have hrow2 := (hK2.block _ (by omega) (by omega)).trans hrow
        have hbel2 := hbel.trans (hK2.below (by omega))
        have hsz2 := Nat.le_trans hsz hK2.size
        clear hB hrow hbel hK2 hc
        go_wp2
        go_roundw
        case rel => exact ⟨k + 1, by omega, by go_num, by rw [HS.out, HE.out]; exact hB2, hrow2, hsz2, hbel2⟩
        case measure => simp [intOf]; omega
      · have he : encB c = [37, hexd (c.toNat / 16), hexd (c.toNat % 16)] := by simp [encB, hp]
        have HE := Lib.hid he
        clear he
        have hcase : (32 < c.toNat ∧ c.toNat < 127 ∧ c.toNat = 37) ∨ (32 < c.toNat ∧ 127 ≤ c.toNat) ∨ c.toNat ≤ 32 := by
          simp [plainB] at hp; omega
        clear hp
        rcases hcase with ⟨h1, h2, h3⟩ | ⟨h1, h2⟩ | h1
        · have t1 : decide ((32 : Int) < (c.toNat : Int)) = true := decide_eq_true (by omega)
          have t2 : decide ((c.toNat : Int) < 127) = true := decide_eq_true (by omega)
          have t3 : ((c.toNat : Int) != 37) = false := by simp; omega
          clear h1 h2 h3
          go_wp2_with fail
          refine (writeByte _ _ _ 37 _ _ rfl hB (by omega) hsz).mono ?_
          rintro e w2 ⟨rfl, hB2, hK2⟩
          have hrow2 := (hK2.block _ (by omega) (by omega)).trans hrow
          have hbel2 := hbel.trans (hK2.below (by omega))
          have hsz2 := Nat.le_trans hsz hK2.size
          clear hB hrow hbel hK2
          clear hc
          go_wp2_with fail
          refine (writeByte _ _ _ (hexd (c.toNat / 16)) _ _ (by rw [dig_at]) hB2 (by simp; omega) hsz2).mono ?_
          rintro e w3 ⟨rfl, hB3, hK3⟩
          have hrow3 := (hK3.block _ (by omega) (by omega)).trans hrow2
          have hbel3 := hbel2.trans (hK3.below (by omega))
          have hsz3 := Nat.le_trans hsz2 hK3.size
          clear hB2 hrow2 hbel2 hK3
          go_wp2_with fail
          refine (writeByte _ _ _ (hexd (c.toNat % 16)) _ _ (by rw [dig_at]) hB3 (by simp; omega) hsz3).mono ?_
          rintro e w4 ⟨rfl, hB4, hK4⟩
          have hrow4 := (hK4.block _ (by omega) (by omega)).trans hrow3
          have hbel4 := hbel3.trans (hK4.below (by omega))
          have hsz4 := Nat.le_trans hsz3 hK4.size
          clear hB3 hrow3 hbel3 hK4
          go_wp2
          go_roundw
          case rel => exact ⟨k + 1, by omega, by go_num, by rw [HS.out, HE.out]; simpa using hB4, hrow4, hsz4, hbel4⟩
          case measure => simp [intOf]; omega
        · have t1 : decide ((32 : Int) < (c.toNat : Int)) = true := decide_eq_true (by omega)
          have t2 : decide ((c.toNat : Int) < 127) = false := decide_eq_false (by omega)
          clear h1 h2
          go_wp2_with fail
          refine (writeByte _ _ _ 37 _ _ rfl hB (by omega) hsz).mono ?_
          rintro e w2 ⟨rfl, hB2, hK2⟩
          have hrow2 := (hK2.block _ (by omega) (by omega)).trans hrow
          have hbel2 := hbel.trans (hK2.below (by omega))
          have hsz2 := Nat.le_trans hsz hK2.size
          clear hB hrow hbel hK2
          clear hc
          go_wp2_with fail
          refine (writeByte _ _ _ (hexd (c.toNat / 16)) _ _ (by rw [dig_at]) hB2 (by simp; omega) hsz2).mono ?_
          rintro e w3 ⟨rfl, hB3, hK3⟩
          have hrow3 := (hK3.block _ (by omega) (by omega)).trans hrow2
          have hbel3 := hbel2.trans (hK3.below (by omega))
          have hsz3 := Nat.le_trans hsz2 hK3.size
          clear hB2 hrow2 hbel2 hK3
          go_wp2_with fail
          refine (writeByte _ _ _ (hexd (c.toNat % 16)) _ _ (by rw [dig_at]) hB3 (by simp; omega) hsz3).mono ?_
          rintro e w4 ⟨rfl, hB4, hK4⟩
          have hrow4 := (hK4.block _ (by omega) (by omega)).trans hrow3
          have hbel4 := hbel3.trans (hK4.below (by omega))
          have hsz4 := Nat.le_trans hsz3 hK4.size
          clear hB3 hrow3 hbel3 hK4
          go_wp2
          go_roundw
          case rel => exact ⟨k + 1, by omega, by go_num, by rw [HS.out, HE.out]; simpa using hB4, hrow4, hsz4, hbel4⟩
          case measure => simp [intOf]; omega
        · have t1 : decide ((32 : Int) < (c.toNat : Int)) = false := decide_eq_false (by omega)
          clear h1
          go_wp2_with fail
          refine (writeByte _ _ _ 37 _ _ rfl hB (by omega) hsz).mono ?_
          rintro e w2 ⟨rfl, hB2, hK2⟩
          have hrow2 := (hK2.block _ (by omega) (by omega)).trans hrow
          have hbel2 := hbel.trans (hK2.below (by omega))
          have hsz2 := Nat.le_trans hsz hK2.size
          clear hB hrow hbel hK2
          clear hc
          go_wp2_with fail
          refine (writeByte _ _ _ (hexd (c.toNat / 16)) _ _ (by rw [dig_at]) hB2 (by simp; omega) hsz2).mono ?_
          rintro e w3 ⟨rfl, hB3, hK3⟩
          have hrow3 := (hK3.block _ (by omega) (by omega)).trans hrow2
          have hbel3 := hbel2.trans (hK3.below (by omega))
          have hsz3 := Nat.le_trans hsz2 hK3.size
          clear hB2 hrow2 hbel2 hK3
          go_wp2_with fail
          refine (writeByte _ _ _ (hexd (c.toNat % 16)) _ _ (by rw [dig_at]) hB3 (by simp; omega) hsz3).mono ?_
          rintro e w4 ⟨rfl, hB4, hK4⟩
          have hrow4 := (hK4.block _ (by omega) (by omega)).trans hrow3
          have hbel4 := hbel3.trans (hK4.below (by omega))
          have hsz4 := Nat.le_trans hsz3 hK4.size
          clear hB3 hrow3 hbel3 hK4
          go_wp2
          go_roundw
          case rel => exact ⟨k + 1, by omega, by go_num, by rw [HS.out, HE.out]; simpa using hB4, hrow4, hsz4, hbel4⟩
          case measure => simp [intOf]; omega
    · obtain rfl : k = s.size := by omega
      clear hlt hk
      go_wp2_with (go_at_call 44; refine (Tryd.Builder_String_any _ _ _ _ hB.isBuilder (by omega)).mono ?_; rintro e w2 ⟨rfl, hb2⟩)
      go_ret
      refine ⟨?_, hbel.trans hb2⟩
      have e1 : s.data.toList.take s.size = s.data.toList := List.take_of_length_le (Nat.le_refl _)
      have e2 : s.data.toList ≠ [] := fun h => by have h2 : s.data.toList.length = s.size := rfl; rw [h] at h2; simp at h2; omega
      rw [e1]
      simp [wordB, ba, wordL, e2]

theorem word_any (s : ByteArray) (w : World) (hs : s.size ≤ 1000000) :
    Calls Tryd.prog 32 #[.string s] w fun e w' => e = .returned (.string (wordB s)) ∧ Below w.heap.size w w' := by
  by_cases h0 : 0 < s.size
  · exact word_some s w hs h0
  · have e : s = ⟨#[]⟩ := by
      rcases s with ⟨a⟩
      have : a.size = 0 := by have h1 : (⟨a⟩ : ByteArray).size = a.size := rfl; omega
      rw [Array.eq_empty_of_size_eq_zero this]
    subst e
    exact word_empty w
end Go.Proofs.YtodiohoiekkodaaDoor.Op
end
