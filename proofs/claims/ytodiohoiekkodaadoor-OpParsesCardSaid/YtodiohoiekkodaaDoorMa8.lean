/- What stands between blanks: plain laws. The walk of op.Parse: as far as the operation is made. Numbers as texts: plain laws. -/
import Derived.Test.YtodiohoiekkodaaDoorMa2
import Derived.Lib.SplitLaws
import Derived.Lib.Join
import Derived.Test.YtodiohoiekkodaaDoorMa7
import Derived.Lib.ItoaNum
import Derived.Lib.AtoiAll
section
set_option linter.unusedVariables false
namespace Go.Proofs.YtodiohoiekkodaaDoor.Sp
open Go

/-- What stands between the bytes c. -/
def spC (c : UInt8) : Bs → List Bs
  | [] => [[]]
  | x :: l => if x = c then [] :: spC c l else match spC c l with
    | h :: t => (x :: h) :: t
    | [] => [[x]]
theorem spC_ne (c : UInt8) (l : Bs) : spC c l ≠ [] := by
  cases l with
  | nil => simp [spC]
  | cons x l =>
    unfold spC
    split
    · simp
    · split <;> simp

theorem index_cons (c x : UInt8) (l : Bs) : Lib.index (x :: l) [c] = if x = c then 0 else if Lib.index l [c] = -1 then -1 else Lib.index l [c] + 1 := by
  rw [Lib.index]
  by_cases h : x = c
  · subst h; simp [List.isPrefixOf]
  · simp [List.isPrefixOf, h, Ne.symm h]

theorem splitK_cons (c x : UInt8) (hx : x ≠ c) : ∀ (k : Nat) (l : Bs), Lib.splitK [c] 0 k (x :: l) = (match Lib.splitK [c] 0 k l with | h :: t => (x :: h) :: t | [] => [[x]]) := by
  intro k l
  cases k with
  | zero => simp [Lib.splitK]
  | succ k =>
    unfold Lib.splitK
    rw [index_cons, if_neg hx]
    by_cases hm : Lib.index l [c] = -1
    · simp [hm]
    · have hge := Lib.index_ge l [c]
      obtain ⟨j, hj⟩ : ∃ j : Nat, Lib.index l [c] = j := ⟨(Lib.index l [c]).toNat, by omega⟩
      rw [if_neg hm, hj]
      have h1 : ¬ (((j : Int) + 1 == -1) = true) := by simp; omega
      have h2 : ¬ (((j : Int) == -1) = true) := by simp
      have e1 : ((j : Int) + 1).toNat = j + 1 := by omega
      have e2 : ((j : Int)).toNat = j := by omega
      rw [if_neg h1, if_neg h2, e1, e2]
      simp only [List.length_singleton, Nat.add_zero]
      rw [List.take_succ_cons, show j + 1 + 1 = (j + 1) + 1 from rfl, List.drop_succ_cons]

theorem splitK_spC (c : UInt8) : ∀ (l : Bs), Lib.splitK [c] 0 (Lib.count l [c]) l = spC c l
  | [] => by rw [Lib.count_miss (by simp [Lib.index])]; rfl
  | x :: l => by
    by_cases h : x = c
    · subst h
      rw [Lib.count_cons_eq, Nat.add_comm, Lib.splitK]
      have e : Lib.index (x :: l) [x] = 0 := by rw [index_cons, if_pos rfl]
      rw [e]
      simp only [spC, if_true]
      rw [← splitK_spC x l]
      simp
    · rw [Lib.count_cons_ne _ _ _ h, splitK_cons c x h, splitK_spC c l, spC, if_neg h]
      cases hs : spC c l with
      | nil => exact absurd hs (spC_ne c l)
      | cons a t => rfl

theorem join2 (a b : Bs) (r : List Bs) (sep : Bs) : Lib.join (a :: b :: r) sep = a ++ (sep ++ Lib.join (b :: r) sep) := by simp [Lib.join, List.intercalate]
theorem join_spC (c : UInt8) : ∀ (l : Bs), Lib.join (spC c l) [c] = l
  | [] => rfl
  | x :: l => by
    unfold spC
    split
    · rename_i h
      subst h
      have ih := join_spC x l
      cases hs : spC x l with
      | nil => exact absurd hs (spC_ne x l)
      | cons a t => rw [hs] at ih; rw [join2, ih]; rfl
    · have ih := join_spC c l
      cases hs : spC c l with
      | nil => exact absurd hs (spC_ne c l)
      | cons a t =>
        rw [hs] at ih
        cases t with
        | nil => rw [Lib.join_one] at ih; simp only; rw [Lib.join_one, ih]
        | cons b t => rw [join2] at ih; simp only; rw [join2, List.cons_append, ih]

/-- Words without the byte, joined, come apart again. -/
theorem spC_join (c : UInt8) : ∀ (a : Bs) (r : List Bs), (∀ x ∈ a, x ≠ c) → (∀ w ∈ r, ∀ x ∈ w, x ≠ c) → spC c (Lib.join (a :: r) [c]) = a :: r
  | [], [], _, _ => by rw [Lib.join_one]; rfl
  | [], b :: r, _, hr => by
    have ih := spC_join c b r (hr b (by simp)) (fun w hw => hr w (by simp [hw]))
    rw [join2, List.nil_append, List.singleton_append]
    unfold spC
    rw [if_pos rfl, ih]
  | x :: a, r, ha, hr => by
    have ih := spC_join c a r (fun y hy => ha y (by simp [hy])) hr
    have e : Lib.join ((x :: a) :: r) [c] = x :: Lib.join (a :: r) [c] := by
      cases r with
      | nil => rw [Lib.join_one, Lib.join_one]
      | cons b r => rw [join2, join2]; rfl
    rw [e]
    unfold spC
    rw [if_neg (ha x (by simp)), ih]

theorem spC_no (c : UInt8) : ∀ (l : Bs), ∀ w ∈ spC c l, ∀ x ∈ w, x ≠ c
  | [], w, hw, x, hx => by simp [spC] at hw; subst hw; simp at hx
  | y :: l, w, hw, x, hx => by
    unfold spC at hw
    split at hw
    · rcases List.mem_cons.1 hw with rfl | hw
      · simp at hx
      · exact spC_no c l w hw x hx
    · rename_i hy
      cases hs : spC c l with
      | nil => exact absurd hs (spC_ne c l)
      | cons a t =>
        have ih := spC_no c l
        rw [hs] at hw ih
        rcases List.mem_cons.1 hw with rfl | hw
        · rcases List.mem_cons.1 hx with rfl | hx
          · exact hy
          · exact ih a (by simp) x hx
        · exact ih w (by simp [hw]) x hx
theorem spC_length (c : UInt8) : ∀ (l : Bs), ∀ w ∈ spC c l, w.length ≤ l.length
  | [], w, hw => by simp [spC] at hw; subst hw; simp
  | y :: l, w, hw => by
    have ih := spC_length c l
    unfold spC at hw
    split at hw
    · rcases List.mem_cons.1 hw with rfl | hw
      · simp
      · have := ih w hw; simp; omega
    · cases hs : spC c l with
      | nil => exact absurd hs (spC_ne c l)
      | cons a t =>
        rw [hs] at hw ih
        rcases List.mem_cons.1 hw with rfl | hw
        · have := ih a (by simp); simp; omega
        · have := ih w (by simp [hw]); simp; omega

theorem wordL_length_ge (l : Bs) : l.length ≤ (wordL l).length := by
  unfold wordL
  split
  · rename_i h; subst h; simp
  · rename_i h
    clear h
    induction l with
    | nil => simp
    | cons x l ih =>
      simp only [List.flatMap_cons, List.length_append, List.length_cons]
      have : 1 ≤ (encB x).length := by unfold encB; split <;> simp
      omega
end Go.Proofs.YtodiohoiekkodaaDoor.Sp
end

section
set_option linter.unusedVariables false
namespace Go.Proofs.YtodiohoiekkodaaDoor.Op
open Go.RowKit Go.Proofs.YtodiohoiekkodaaDoor.Bd Go.Proofs.YtodiohoiekkodaaDoor.Sp

/-- The words of a line. -/
def words (s : ByteArray) : List ByteArray := Lib.splitB ⟨#[32]⟩ 0 (Lib.countB s ⟨#[32]⟩) s
theorem words_length (s : ByteArray) : (words s).length = Lib.countB s ⟨#[32]⟩ + 1 := Lib.splitB_all ⟨#[32]⟩ (by decide) 0 _ s rfl

theorem words_data (s : ByteArray) : (words s).map (·.data.toList) = spC 32 s.data.toList := by
  unfold words
  rw [Lib.splitB_data]
  exact splitK_spC 32 s.data.toList
theorem words_size (s : ByteArray) : ∀ x ∈ words s, x.size ≤ s.size := by
  intro x hx
  have h : x.data.toList ∈ spC 32 s.data.toList := by rw [← words_data]; exact List.mem_map.2 ⟨x, hx, rfl⟩
  have h2 := spC_length 32 _ _ h
  have e1 : x.data.toList.length = x.data.size := Array.length_toList
  have e2 : s.data.toList.length = s.data.size := Array.length_toList
  rw [e1, e2] at h2
  exact h2
theorem unwT_size (w : ByteArray) : (unwT w).size ≤ w.size := by
  unfold unwT
  cases h : unwordL w.data.toList with
  | none => exact Nat.zero_le _
  | some t =>
    have h2 := wordL_length_ge t
    rw [(unwordL_iff _ _).1 h] at h2
    have e2 : w.data.toList.length = w.data.size := Array.length_toList
    rw [e2] at h2
    show t.toArray.size ≤ w.data.size
    rw [List.size_toArray]
    exact h2
theorem fillR_size {k : Int} {ws : List ByteArray} {s : Int} {t p : ByteArray} (h : fillR k ws = some (s, t, p)) (N : Nat) (hN : ∀ x ∈ ws, x.size ≤ N) : t.size ≤ N ∧ p.size ≤ N := by
  have h0 : (⟨#[]⟩ : ByteArray).size ≤ N := Nat.zero_le _
  unfold fillR at h
  split at h
  · split at h
    · split at h
      · simp only [Option.some.injEq, Prod.mk.injEq] at h
        obtain ⟨rfl, rfl, rfl⟩ := h
        exact ⟨Nat.le_trans (unwT_size _) (hN _ (by simp)), Nat.le_trans (unwT_size _) (hN _ (by simp))⟩
      · simp at h
    · simp at h
  · split at h
    · simp at h
    · split at h
      · split at h
        · split at h
          · simp only [Option.some.injEq, Prod.mk.injEq] at h
            obtain ⟨rfl, rfl, rfl⟩ := h
            exact ⟨h0, h0⟩
          · simp at h
        · split at h
          · split at h
            · simp only [Option.some.injEq, Prod.mk.injEq] at h
              obtain ⟨rfl, rfl, rfl⟩ := h
              exact ⟨Nat.le_trans (unwT_size _) (hN _ (by simp)), h0⟩
            · simp at h
          · simp at h
      · simp at h

def opZ : Value := .agg #[.int .i64 0, .int .i64 0, .string ⟨#[]⟩, .string ⟨#[]⟩, .bool false]
def parseV (s : ByteArray) : Value := match words s with
  | [] => .tuple #[opZ, .int .i64 11]
  | x :: r => if kindOK x = false then .tuple #[opZ, .int .i64 11] else match fillR (kindK x) r with
    | none => .tuple #[opZ, .int .i64 10]
    | some (sub, t, p) => if plainOK (kindK x) sub t p (kindKeep x) = true ∧ lineB (kindK x) sub t p (kindKeep x) = s then .tuple #[.agg #[.int .i64 (kindK x), .int .i64 sub, .string t, .string p, .bool (kindKeep x)], .int .i64 0] else .tuple #[opZ, .int .i64 10]

/-- What region 2 leaves: the operation made, of the word's kind, and whether it has one. -/
def Made (n : Nat) (x : ByteArray) (w1 : World) (a b : Value) (wx : World) : Prop :=
  ∃ bx, n ≤ bx ∧ a = .pointer (some ⟨bx, 0, none⟩) ∧ b = .bool (kindOK x) ∧ XAt bx (kindK x) 0 ⟨#[]⟩ ⟨#[]⟩ (kindKeep x) wx ∧ Below n w1 wx

theorem opc0 {b : Nat} {k sub : Int} {t p : ByteArray} {keep : Bool} {w : World} (h : XAt b k sub t p keep w) : w.cell? ⟨b, 0, none⟩ = some (.int .i64 k) := by rw [Lib.cell_of_heap h]; rfl
theorem opc1 {b : Nat} {k sub : Int} {t p : ByteArray} {keep : Bool} {w : World} (h : XAt b k sub t p keep w) : w.cell? ⟨b, 1, none⟩ = some (.int .i64 sub) := by rw [Lib.cell_of_heap h]; rfl
theorem opc2 {b : Nat} {k sub : Int} {t p : ByteArray} {keep : Bool} {w : World} (h : XAt b k sub t p keep w) : w.cell? ⟨b, 2, none⟩ = some (.string t) := by rw [Lib.cell_of_heap h]; rfl
theorem opc3 {b : Nat} {k sub : Int} {t p : ByteArray} {keep : Bool} {w : World} (h : XAt b k sub t p keep w) : w.cell? ⟨b, 3, none⟩ = some (.string p) := by rw [Lib.cell_of_heap h]; rfl
theorem opc4 {b : Nat} {k sub : Int} {t p : ByteArray} {keep : Bool} {w : World} (h : XAt b k sub t p keep w) : w.cell? ⟨b, 4, none⟩ = some (.bool keep) := by rw [Lib.cell_of_heap h]; rfl
theorem opf {b : Nat} {k sub : Int} {t p : ByteArray} {keep : Bool} {w : World} (h : XAt b k sub t p keep w) (i : Nat) : w.frozen? ⟨b, i, none⟩ = false := Lib.frozen_of_heap h i
theorem made_a (x : ByteArray) (w : World) : Made w.heap.size x w (.pointer (some ⟨w.heap.size + 1, 0, none⟩)) (.bool (kindOK x)) ((w.alloc (.map namesE 6)).alloc (.cells #[.int .i64 (kindK x), .int .i64 0, .string ⟨#[]⟩, .string ⟨#[]⟩, .bool (kindKeep x)] 23)).drew :=
  ⟨w.heap.size + 1, by omega, rfl, rfl, (by
    have e : w.heap.size + 1 = (w.alloc (.map namesE 6)).heap.size := by simp
    show ((w.alloc (.map namesE 6)).alloc _).heap[_]? = _
    rw [e]; exact heap_alloc_new _ _), (((Below.refl _ w).alloc (Nat.le_refl _) _).alloc (by simp) _).drew⟩
theorem made_b (x : ByteArray) (w : World) : Made w.heap.size x w (.pointer (some ⟨w.heap.size, 0, none⟩)) (.bool (kindOK x)) ((w.alloc (.cells #[.int .i64 (kindK x), .int .i64 0, .string ⟨#[]⟩, .string ⟨#[]⟩, .bool (kindKeep x)] 23)).alloc (.map namesE 6)).drew :=
  ⟨w.heap.size, by omega, rfl, rfl, (Below.heap_alloc _ _ _ (by simp)).trans (heap_alloc_new w _), (((Below.refl _ w).alloc (Nat.le_refl _) _).alloc (by simp) _).drew⟩

set_option maxHeartbeats 8000000 in
set_option maxRecDepth 100000 in
theorem parse_any (s : ByteArray) (w : World) (hG : Glob w) (hs : s.size ≤ 4000) :
    Calls Tryd.prog 14 #[.string s] w fun e w' => e = .returned (parseV s) ∧ Below w.heap.size w w' := by
  obtain ⟨m, hm⟩ := hG.mxCell
  have hm2 : ∀ o, (w.alloc o).cell? ⟨1, 0, none⟩ = some (.int .i64 m) := fun o => keep_cell ((Below.refl _ w).alloc (Nat.le_refl _) o) hm
  obtain ⟨x, r, hxr⟩ : ∃ x r, words s = x :: r := by
    cases h : words s with
    | nil => have := words_length s; rw [h] at this; simp at this
    | cons x r => exact ⟨x, r, rfl⟩
  have hlen := words_length s
  rw [hxr] at hlen
  have HXR := Lib.hid hxr
  have HL := Lib.hid hlen
  clear hxr hlen hm
  obtain ⟨w1, hw1⟩ : ∃ w1, w1 = (w.alloc (.cells #[.int .i64 0, .int .i64 0, .string ⟨#[]⟩, .string ⟨#[]⟩, .bool false] 23)).alloc (.cells ((words s).map Value.string).toArray 9) := ⟨_, rfl⟩
  have sz1 : w1.heap.size = w.heap.size + 2 := by rw [hw1]; simp
  have bl1 : Below w.heap.size w w1 := by rw [hw1]; exact ((Below.refl _ w).alloc (Nat.le_refl _) _).alloc (by simp) _
  have rs1 : XAt w.heap.size 0 0 ⟨#[]⟩ ⟨#[]⟩ false w1 := by rw [hw1]; exact (Below.heap_alloc _ _ _ (by simp)).trans (heap_alloc_new _ _)
  have ls1 : w1.heap[w.heap.size + 1]? = some (.cells ((words s).map Value.string).toArray 9) := by
    have e : w.heap.size + 1 = (w.alloc (.cells #[.int .i64 0, .int .i64 0, .string ⟨#[]⟩, .string ⟨#[]⟩, .bool false] 23)).heap.size := by simp
    rw [hw1, e]; exact heap_alloc_new _ _
  have HW1 := Lib.hid hw1
  have SZ1 := Lib.hid sz1
  have RS1 := Lib.hid rs1
  have LS1 := Lib.hid ls1
  have BL1 := Lib.hid bl1
  have d0 : w1.cell? ⟨w.heap.size + 1, 0, none⟩ = some (.string x) := by rw [Lib.cell_of_heap (w := w1) ls1, HXR.out]; rfl
  have d1 : ∀ o, (w1.alloc o).cell? ⟨w.heap.size + 1, 0, none⟩ = some (.string x) := fun o => keep_cell ((Below.refl _ _).alloc (Nat.le_refl _) o) d0
  have d2 : ∀ o o', ((w1.alloc o).alloc o').cell? ⟨w.heap.size + 1, 0, none⟩ = some (.string x) := fun o o' => keep_cell ((Below.refl _ _).alloc (Nat.le_refl _) o') (d1 o)
  have k1 : (Instr.lookup 65 (.map (some w1.heap.size)) (.string x) true).run Tryd.prog (w1.alloc (.map namesE 6)).drew = .ok (.tuple #[opAgg (kindK x) (kindKeep x), .bool (kindOK x)]) (w1.alloc (.map namesE 6)).drew :=
    run_lookup_names (w1.alloc (.map namesE 6)).drew _ _ (heap_alloc_new w1 _)
  have k2 : ∀ o, (Instr.lookup 65 (.map (some w1.heap.size)) (.string x) true).run Tryd.prog ((w1.alloc (.map namesE 6)).alloc o).drew = .ok (.tuple #[opAgg (kindK x) (kindKeep x), .bool (kindOK x)]) ((w1.alloc (.map namesE 6)).alloc o).drew := fun o =>
    run_lookup_names ((w1.alloc (.map namesE 6)).alloc o).drew _ _ ((Below.heap_alloc _ _ _ (by simp)).trans (heap_alloc_new w1 _))
  have k3 : ∀ o, (Instr.lookup 65 (.map (some (w1.heap.size + 1))) (.string x) true).run Tryd.prog ((w1.alloc o).alloc (.map namesE 6)).drew = .ok (.tuple #[opAgg (kindK x) (kindKeep x), .bool (kindOK x)]) ((w1.alloc o).alloc (.map namesE 6)).drew := fun o =>
    run_lookup_names ((w1.alloc o).alloc (.map namesE 6)).drew _ _ (by
      have e : w1.heap.size + 1 = (w1.alloc o).heap.size := by simp
      show ((w1.alloc o).alloc (.map namesE 6)).heap[_]? = _
      rw [e]; exact heap_alloc_new _ _)
  clear hw1 sz1 rs1 ls1 bl1
  obtain ⟨L, hLr⟩ : ∃ L, L = r.length + 1 := ⟨_, rfl⟩
  have hL1 : 1 ≤ L := by omega
  have hL0 : (0 : Int) < (L : Int) := by omega
  have hsp : ∀ o, Calls Tryd.prog 37 #[.string s, .string ⟨#[32]⟩] (w.alloc o) fun e w' => e = .returned (.slice (some ⟨w.heap.size + 1, 0, none⟩) L L) ∧ w' = (w.alloc o).alloc (.cells ((words s).map Value.string).toArray 9) := by
    intro o
    refine (Tryd.strings_Split s ⟨#[32]⟩ m _ (by omega) (hm2 _) (by decide)).mono ?_
    rintro e w2 ⟨rfl, rfl⟩
    have e := HL.out
    simp only [List.length_cons] at e
    rw [← e, ← hLr]
    exact ⟨by simp, rfl⟩
  have HSP := Lib.hid hsp
  have HLR := Lib.hid hLr
  clear hsp hLr hm2
  go_enter Tryd.func14, Tryd.ntmps14
  go_upto_region 2 with (go_at_call 37; refine (HSP.out _).mono ?_; rintro e w2 ⟨rfl, hw2⟩; have hw3 := hw2.trans HW1.out.symm; clear hw2; subst hw3)
  go_cut [5, 6] (fun s5 s6 wx => Made w2.heap.size x w2 s5 s6 wx)
  case first =>
    go_region_with (go_at_call 38; refine (names_any _).mono ?_; rintro e w' ⟨rfl, rfl⟩)
    all_goals (go_wp2_with fail; go_meet; first | exact made_a x w2 | exact made_b x w2)
  case rest =>
    obtain ⟨bx, hbx, rfl, rfl, hx, hb⟩ := hcut
    have rs := (hb.block _ (by rw [SZ1.out]; omega)).trans RS1.out
    have ls := (hb.block _ (by rw [SZ1.out]; omega)).trans LS1.out
    have hb0 := BL1.out.trans (hb.mono (by rw [SZ1.out]; omega))
    have hG2 := hG.below hb0
    have hbn : w.heap.size + 1 < bx := by have := SZ1.out; omega
    clear hb hbx
    have c0 := opc0 rs
    have c1 := opc1 rs
    have c2 := opc2 rs
    have c3 := opc3 rs
    have c4 := opc4 rs
    have f0 := opf rs
    have RS := Lib.hid rs
    have LS := Lib.hid ls
    have HX := Lib.hid hx
    clear rs ls hx
    cases hk : kindOK x with
    | false =>
      go_wp2
      refine bodyPost_ret (v := parseV s) ?_ rfl ⟨rfl, ?_⟩
      · unfold parseV
        rw [HXR.out]
        simp only [hk, if_true]
        simp [results, Tryd.results14, go_sem, c0, c1, c2, c3, c4, opZ]
      · exact ((((hb0.setCell (Nat.le_refl _) _).setCell (Nat.le_refl _) _).setCell (Nat.le_refl _) _).setCell (Nat.le_refl _) _).setCell (Nat.le_refl _) _
    | true =>
      have hkk : kindK x = 1 ∨ kindK x = 2 ∨ kindK x = 3 ∨ kindK x = 4 ∨ kindK x = 5 := by
        have h0 : kindK x ≠ 0 := of_decide_eq_true hk
        unfold kindK at h0 ⊢
        split
        · simp
        split
        · simp
        split
        · simp
        split
        · simp
        split
        · simp
        · rename_i a b c d e; simp [a, b, c, d, e] at h0
      have hsz : ∀ y ∈ r, y.size ≤ 4000 := fun y hy => Nat.le_trans (words_size s y (by rw [HXR.out]; simp [hy])) hs
      have hd : ∀ j y, r[j]? = some y → wc.cell? ⟨w.heap.size + 1, 1 + j, none⟩ = some (.string y) := by
        intro j y hy
        rw [Lib.cell_of_heap LS.out, HXR.out]
        simp [Nat.add_comm 1 j, hy]
      have hne : w.heap.size + 1 ≠ bx := by omega
      have hb8 : 8 ≤ bx := by have := hG.lt; omega
      have HKK := Lib.hid hkk
      have HSZ := Lib.hid hsz
      have HD := Lib.hid hd
      have HNE := Lib.hid hne
      have HB8 := Lib.hid hb8
      have HK := Lib.hid hk
      have HBN := Lib.hid hbn
      clear hkk hsz hd hne hb8 hk hbn
      have hpv : parseV s = match fillR (kindK x) r with
          | none => .tuple #[opZ, .int .i64 10]
          | some (sub, t, p) => if plainOK (kindK x) sub t p (kindKeep x) = true ∧ lineB (kindK x) sub t p (kindKeep x) = s then .tuple #[.agg #[.int .i64 (kindK x), .int .i64 sub, .string t, .string p, .bool (kindKeep x)], .int .i64 0] else .tuple #[opZ, .int .i64 10] := by
        unfold parseV
        rw [HXR.out]
        simp only [HK.out]
        rw [if_neg (by simp)]
      have HPV := Lib.hid hpv
      clear hpv
      cases hf : fillR (kindK x) r with
      | none =>
        have HF := Lib.hid hf
        clear hf
        go_wp2_with (go_at_call 39; refine (fill_any bx (w.heap.size + 1) _ _ (kindK x) (kindKeep x) _ r wc hG2 HB8.out HKK.out HX.out HNE.out (by have := HLR.out; omega) (by first | (intro h; omega) | (intro h; rfl)) HD.out (fun y hy => Nat.le_trans (HSZ.out y hy) (by omega))).mono ?_; rintro e w4 h4; rw [HF.out] at h4; obtain ⟨rfl, ho4⟩ := h4; have rs4 : XAt w.heap.size 0 0 ⟨#[]⟩ ⟨#[]⟩ false w4 := (ho4.block _ (Array.getElem?_eq_some_iff.1 RS.out).1 (by have := HBN.out; omega)).trans RS.out; have g0 := opc0 rs4; have g1 := opc1 rs4; have g2 := opc2 rs4; have g3 := opc3 rs4; have g4 := opc4 rs4; have gf := opf rs4; have hb4 := hb0.trans (ho4.below (B := w.heap.size) (by have := HBN.out; omega) hb0.size); have HR4 := Lib.hid rs4; clear rs4 ho4)
        all_goals
          refine bodyPost_ret (v := parseV s) ?_ rfl ⟨rfl, ?_⟩
          · rw [HPV.out, HF.out]
            simp [results, Tryd.results14, go_sem, g0, g1, g2, g3, g4, opZ]
          · exact ((((hb4.setCell (Nat.le_refl _) _).setCell (Nat.le_refl _) _).setCell (Nat.le_refl _) _).setCell (Nat.le_refl _) _).setCell (Nat.le_refl _) _
      | some r3 =>
        obtain ⟨sub, t, p⟩ := r3
        have hts := fillR_size hf 4000 HSZ.out
        have HF := Lib.hid hf
        clear hf
        by_cases hp : plainOK (kindK x) sub t p (kindKeep x) = true
        · have hlv : lineV (kindK x) sub t p (kindKeep x) = .tuple #[.string (lineB (kindK x) sub t p (kindKeep x)), .int .i64 0] := by unfold lineV; rw [if_pos hp]
          have HLV := Lib.hid hlv
          by_cases hl : lineB (kindK x) sub t p (kindKeep x) = s
          · have heq : ((lineB (kindK x) sub t p (kindKeep x)).toList == s.toList) = true := by rw [hl]; simp
            have HPL : Hid (plainOK (kindK x) sub t p (kindKeep x) = true ∧ lineB (kindK x) sub t p (kindKeep x) = s) := Lib.hid ⟨hp, hl⟩
            clear hp hl hlv
            go_wp2_with (first
              | (go_at_call 39; refine (fill_any bx (w.heap.size + 1) _ _ (kindK x) (kindKeep x) _ r wc hG2 HB8.out HKK.out HX.out HNE.out (by have := HLR.out; omega) (by first | (intro h; omega) | (intro h; rfl)) HD.out (fun y hy => Nat.le_trans (HSZ.out y hy) (by omega))).mono ?_; rintro e w4 h4; rw [HF.out] at h4; obtain ⟨rfl, hx4, ho4⟩ := h4; have HX4 := Lib.hid hx4; have y0 := opc0 hx4; have y1 := opc1 hx4; have y2 := opc2 hx4; have y3 := opc3 hx4; have y4 := opc4 hx4; have rs4 : XAt w.heap.size 0 0 ⟨#[]⟩ ⟨#[]⟩ false w4 := (ho4.block _ (Array.getElem?_eq_some_iff.1 RS.out).1 (by have := HBN.out; omega)).trans RS.out; have g0 := opc0 rs4; have g1 := opc1 rs4; have g2 := opc2 rs4; have g3 := opc3 rs4; have g4 := opc4 rs4; have gf := opf rs4; have hb4 := hb0.trans (ho4.below (B := w.heap.size) (by have := HBN.out; omega) hb0.size); have HR4 := Lib.hid rs4; clear rs4 ho4 hx4)
              | (go_at_call 10; refine (line_any (kindK x) sub t p (kindKeep x) w4 (hG.below hb4) hts.1 hts.2).mono ?_; rintro e w5 ⟨rfl, hb5⟩; rw [HLV.out]; have rs5 : XAt w.heap.size 0 0 ⟨#[]⟩ ⟨#[]⟩ false w5 := (hb5.block _ (Array.getElem?_eq_some_iff.1 HR4.out).1).trans HR4.out; have xs5 : XAt bx (kindK x) sub t p (kindKeep x) w5 := (hb5.block _ (Array.getElem?_eq_some_iff.1 HX4.out).1).trans HX4.out; have i0 := opc0 rs5; have i1 := opc1 rs5; have i2 := opc2 rs5; have i3 := opc3 rs5; have i4 := opc4 rs5; have if5 := opf rs5; have j0 := opc0 xs5; have j1 := opc1 xs5; have j2 := opc2 xs5; have j3 := opc3 xs5; have j4 := opc4 xs5; have hb6 := hb4.trans (hb5.mono hb4.size); clear rs5 xs5 hb5))
            all_goals
              refine bodyPost_ret (v := parseV s) ?_ rfl ⟨rfl, ?_⟩
              · rw [HPV.out, HF.out]
                simp only [if_pos HPL.out]
                simp [results, Tryd.results14, go_sem, i0, i1, i2, i3, i4]
              · exact ((((hb6.setCell (Nat.le_refl _) _).setCell (Nat.le_refl _) _).setCell (Nat.le_refl _) _).setCell (Nat.le_refl _) _).setCell (Nat.le_refl _) _
          · have heq : ((lineB (kindK x) sub t p (kindKeep x)).toList == s.toList) = false := by
              rw [bytes_toList, bytes_toList]; exact beq_eq_false_iff_ne.2 (fun h => hl (by cases hq : lineB (kindK x) sub t p (kindKeep x); cases s; rw [hq] at h; simp only [Array.toList_inj] at h; rw [h]))
            have HPL : Hid (¬ (plainOK (kindK x) sub t p (kindKeep x) = true ∧ lineB (kindK x) sub t p (kindKeep x) = s)) := Lib.hid fun h => hl h.2
            clear hp hl hlv
            go_wp2_with (first
              | (go_at_call 39; refine (fill_any bx (w.heap.size + 1) _ _ (kindK x) (kindKeep x) _ r wc hG2 HB8.out HKK.out HX.out HNE.out (by have := HLR.out; omega) (by first | (intro h; omega) | (intro h; rfl)) HD.out (fun y hy => Nat.le_trans (HSZ.out y hy) (by omega))).mono ?_; rintro e w4 h4; rw [HF.out] at h4; obtain ⟨rfl, hx4, ho4⟩ := h4; have HX4 := Lib.hid hx4; have y0 := opc0 hx4; have y1 := opc1 hx4; have y2 := opc2 hx4; have y3 := opc3 hx4; have y4 := opc4 hx4; have rs4 : XAt w.heap.size 0 0 ⟨#[]⟩ ⟨#[]⟩ false w4 := (ho4.block _ (Array.getElem?_eq_some_iff.1 RS.out).1 (by have := HBN.out; omega)).trans RS.out; have g0 := opc0 rs4; have g1 := opc1 rs4; have g2 := opc2 rs4; have g3 := opc3 rs4; have g4 := opc4 rs4; have gf := opf rs4; have hb4 := hb0.trans (ho4.below (B := w.heap.size) (by have := HBN.out; omega) hb0.size); have HR4 := Lib.hid rs4; clear rs4 ho4 hx4)
              | (go_at_call 10; refine (line_any (kindK x) sub t p (kindKeep x) w4 (hG.below hb4) hts.1 hts.2).mono ?_; rintro e w5 ⟨rfl, hb5⟩; rw [HLV.out]; have rs5 : XAt w.heap.size 0 0 ⟨#[]⟩ ⟨#[]⟩ false w5 := (hb5.block _ (Array.getElem?_eq_some_iff.1 HR4.out).1).trans HR4.out; have xs5 : XAt bx (kindK x) sub t p (kindKeep x) w5 := (hb5.block _ (Array.getElem?_eq_some_iff.1 HX4.out).1).trans HX4.out; have i0 := opc0 rs5; have i1 := opc1 rs5; have i2 := opc2 rs5; have i3 := opc3 rs5; have i4 := opc4 rs5; have if5 := opf rs5; have j0 := opc0 xs5; have j1 := opc1 xs5; have j2 := opc2 xs5; have j3 := opc3 xs5; have j4 := opc4 xs5; have hb6 := hb4.trans (hb5.mono hb4.size); clear rs5 xs5 hb5))
            all_goals
              refine bodyPost_ret (v := parseV s) ?_ rfl ⟨rfl, ?_⟩
              · rw [HPV.out, HF.out]
                simp only [if_neg HPL.out]
                simp [results, Tryd.results14, go_sem, i0, i1, i2, i3, i4, opZ]
              · exact ((((hb6.setCell (Nat.le_refl _) _).setCell (Nat.le_refl _) _).setCell (Nat.le_refl _) _).setCell (Nat.le_refl _) _).setCell (Nat.le_refl _) _
        · have hlv : lineV (kindK x) sub t p (kindKeep x) = .tuple #[.string ⟨#[]⟩, .int .i64 10] := by unfold lineV; rw [if_neg hp]
          have HLV := Lib.hid hlv
          have HPL : Hid (¬ (plainOK (kindK x) sub t p (kindKeep x) = true ∧ lineB (kindK x) sub t p (kindKeep x) = s)) := Lib.hid fun h => hp h.1
          clear hp hlv
          go_wp2_with (first
            | (go_at_call 39; refine (fill_any bx (w.heap.size + 1) _ _ (kindK x) (kindKeep x) _ r wc hG2 HB8.out HKK.out HX.out HNE.out (by have := HLR.out; omega) (by first | (intro h; omega) | (intro h; rfl)) HD.out (fun y hy => Nat.le_trans (HSZ.out y hy) (by omega))).mono ?_; rintro e w4 h4; rw [HF.out] at h4; obtain ⟨rfl, hx4, ho4⟩ := h4; have HX4 := Lib.hid hx4; have y0 := opc0 hx4; have y1 := opc1 hx4; have y2 := opc2 hx4; have y3 := opc3 hx4; have y4 := opc4 hx4; have rs4 : XAt w.heap.size 0 0 ⟨#[]⟩ ⟨#[]⟩ false w4 := (ho4.block _ (Array.getElem?_eq_some_iff.1 RS.out).1 (by have := HBN.out; omega)).trans RS.out; have g0 := opc0 rs4; have g1 := opc1 rs4; have g2 := opc2 rs4; have g3 := opc3 rs4; have g4 := opc4 rs4; have gf := opf rs4; have hb4 := hb0.trans (ho4.below (B := w.heap.size) (by have := HBN.out; omega) hb0.size); have HR4 := Lib.hid rs4; clear rs4 ho4 hx4)
            | (go_at_call 10; refine (line_any (kindK x) sub t p (kindKeep x) w4 (hG.below hb4) hts.1 hts.2).mono ?_; rintro e w5 ⟨rfl, hb5⟩; rw [HLV.out]; have rs5 : XAt w.heap.size 0 0 ⟨#[]⟩ ⟨#[]⟩ false w5 := (hb5.block _ (Array.getElem?_eq_some_iff.1 HR4.out).1).trans HR4.out; have xs5 : XAt bx (kindK x) sub t p (kindKeep x) w5 := (hb5.block _ (Array.getElem?_eq_some_iff.1 HX4.out).1).trans HX4.out; have i0 := opc0 rs5; have i1 := opc1 rs5; have i2 := opc2 rs5; have i3 := opc3 rs5; have i4 := opc4 rs5; have if5 := opf rs5; have j0 := opc0 xs5; have j1 := opc1 xs5; have j2 := opc2 xs5; have j3 := opc3 xs5; have j4 := opc4 xs5; have hb6 := hb4.trans (hb5.mono hb4.size); clear rs5 xs5 hb5))
          all_goals
            refine bodyPost_ret (v := parseV s) ?_ rfl ⟨rfl, ?_⟩
            · rw [HPV.out, HF.out]
              simp only [if_neg HPL.out]
              simp [results, Tryd.results14, go_sem, i0, i1, i2, i3, i4, opZ]
            · exact ((((hb6.setCell (Nat.le_refl _) _).setCell (Nat.le_refl _) _).setCell (Nat.le_refl _) _).setCell (Nat.le_refl _) _).setCell (Nat.le_refl _) _
end Go.Proofs.YtodiohoiekkodaaDoor.Op
end

section
set_option linter.unusedVariables false
namespace Go.Proofs.YtodiohoiekkodaaDoor.Sp
open Go

theorem dd_small {u : Nat} (h : u < 10) : Lib.decDigits u = [UInt8.ofNat (48 + u)] := by rw [Lib.decDigits, dif_pos h]
theorem dd_big {u : Nat} (h : ¬ u < 10) : Lib.decDigits u = Lib.decDigits (u / 10) ++ [UInt8.ofNat (48 + u % 10)] := by rw [Lib.decDigits, dif_neg h]
theorem digit_val {d : Nat} (h : d < 10) : (UInt8.ofNat (48 + d)).toNat = 48 + d := by simp; omega
theorem digit_of {c : UInt8} (h : 48 ≤ c.toNat) : UInt8.ofNat (48 + (c.toNat - 48)) = c := by
  have e : 48 + (c.toNat - 48) = c.toNat := by omega
  rw [e]
  exact UInt8.ofNat_toNat
theorem dd_digits (u : Nat) : ∀ c ∈ Lib.decDigits u, 48 ≤ c.toNat ∧ c.toNat ≤ 57 := by
  induction u using Nat.strongRecOn with
  | _ u ih =>
    by_cases h : u < 10
    · rw [dd_small h]; intro c hc; simp only [List.mem_singleton] at hc; subst hc; rw [digit_val h]; omega
    · rw [dd_big h]
      intro c hc
      rcases List.mem_append.1 hc with hc | hc
      · exact ih (u / 10) (by omega) c hc
      · simp only [List.mem_singleton] at hc; subst hc; rw [digit_val (by omega)]; omega
theorem dd_ne (u : Nat) : Lib.decDigits u ≠ [] := by
  by_cases h : u < 10
  · rw [dd_small h]; simp
  · rw [dd_big h]; simp

/-- One digit more. -/
def pstep (m : Nat) (c : UInt8) : Lib.NumEnd Nat := Lib.parseUint10 m [c]
theorem parse_append (c : UInt8) : ∀ (l : Bs) (acc m : Nat), Lib.parseUint10 acc l = .ok m → Lib.parseUint10 acc (l ++ [c]) = pstep m c
  | [], acc, m, h => by
    simp only [Lib.parseUint10, Lib.NumEnd.ok.injEq] at h
    subst h
    simp only [List.nil_append, pstep]
  | d :: l, acc, m, h => by
    simp only [Lib.parseUint10] at h
    split at h
    · rename_i h1
      split at h
      · cases h
      · rename_i h2
        split at h
        · cases h
        · rename_i h3
          rw [List.cons_append, Lib.parseUint10, if_pos h1, if_neg h2, if_neg h3]
          exact parse_append c l _ m h
    · cases h
theorem parse_dd (u : Nat) (hu : u < 18446744073709551616) : Lib.parseUint10 0 (Lib.decDigits u) = .ok u := by
  induction u using Nat.strongRecOn with
  | _ u ih =>
    by_cases h : u < 10
    · rw [dd_small h, Lib.parseUint10, digit_val h, if_pos (by omega), if_neg (by omega), if_neg (by omega)]
      simp only [Lib.parseUint10]
      congr 1; omega
    · rw [dd_big h, parse_append _ _ _ _ (ih (u / 10) (by omega) (by omega)), pstep, Lib.parseUint10, digit_val (by omega), if_pos (by omega), if_neg (by omega), if_neg (by omega)]
      simp only [Lib.parseUint10]
      congr 1; omega
theorem dd_head {u : Nat} : ∃ c r, Lib.decDigits u = c :: r ∧ 48 ≤ c.toNat ∧ c.toNat ≤ 57 := by
  cases h : Lib.decDigits u with
  | nil => exact absurd h (dd_ne u)
  | cons c r => exact ⟨c, r, rfl, dd_digits u c (by rw [h]; simp)⟩

theorem itoa_nat (u : Nat) : Lib.itoa (u : Int) = Lib.decDigits u := by unfold Lib.itoa; rw [if_neg (by omega)]; simp
theorem atoi_itoa (v : Int) (h0 : -9223372036854775808 ≤ v) (h1 : v ≤ 9223372036854775807) : Lib.atoiAll (Lib.itoa v) = .ok v := by
  unfold Lib.itoa
  by_cases hv : v < 0
  · rw [if_pos hv]
    simp only [Lib.atoiAll]
    have e45 : (45 : UInt8).toNat = 45 := rfl
    rw [e45, if_pos (by omega)]
    unfold Lib.parseMag
    rw [if_neg (dd_ne _), parse_dd _ (by omega)]
    simp only
    have a1 : ¬ (¬ True ∧ 9223372036854775808 ≤ v.natAbs) := fun h => h.1 trivial
    have a2 : ¬ (True ∧ 9223372036854775808 < v.natAbs) := fun h => by have := h.2; omega
    first
      | rw [if_neg a1, if_neg a2, if_pos trivial]
      | (simp only [not_true_eq_false, false_and, if_false, true_and, if_true]; rw [if_neg (by omega)])
    congr 1; omega
  · rw [if_neg hv]
    obtain ⟨c, r, hd, hc⟩ := dd_head (u := v.toNat)
    have hp := parse_dd v.toNat (by omega)
    rw [hd] at hp ⊢
    simp only [Lib.atoiAll]
    have a0 : ¬ (c.toNat = 43 ∨ c.toNat = 45) := by omega
    have a1 : ¬ (¬ c.toNat = 45 ∧ 9223372036854775808 ≤ v.toNat) := by omega
    have a2 : ¬ (c.toNat = 45 ∧ 9223372036854775808 < v.toNat) := by omega
    have a3 : ¬ c.toNat = 45 := by omega
    rw [if_neg a0]
    unfold Lib.parseMag
    rw [if_neg (by simp), hp]
    simp only
    rw [if_neg a1, if_neg a2, if_neg a3]
    congr 1; omega

/-- A number of at most four digits, without a nought ahead; -1: it is none. -/
def numGo (n : Int) : Bs → Int
  | [] => n
  | c :: r => if c.toNat < 48 ∨ 57 < c.toNat then -1 else numGo (n * 10 + c.toNat - 48) r
def numS (l : Bs) : Int := if l.length < 1 ∨ 4 < l.length ∨ (1 < l.length ∧ l.head? = some 48) then -1 else numGo 0 l

theorem numGo_digits : ∀ (l : Bs) (n : Int), 0 ≤ n → 0 ≤ numGo n l → ∀ c ∈ l, 48 ≤ c.toNat ∧ c.toNat ≤ 57
  | [], _, _, _, _, hc => by simp at hc
  | x :: l, n, hn, h, c, hc => by
    unfold numGo at h
    split at h
    · omega
    · rename_i hx
      rcases List.mem_cons.1 hc with rfl | hc
      · omega
      · exact numGo_digits l _ (by omega) h c hc
theorem num_ok (l : Bs) (h : 0 ≤ numS l) : Lib.itoa (numS l) = l ∧ numS l ≤ 9999 := by
  unfold numS at h ⊢
  split at h
  · omega
  · rename_i hl
    rw [if_neg hl]
    have hd := numGo_digits l 0 (by omega) h
    clear h
    have go : ∀ (n : Nat) (v : Int), v = (n : Int) → Lib.decDigits n = l → n ≤ 9999 → Lib.itoa v = l ∧ v ≤ 9999 := by
      rintro n v rfl h1 h2
      exact ⟨by rw [itoa_nat, h1], by omega⟩
    match l, hl, hd, go with
    | [a], hl, hd, go =>
      have h1 := hd a (by simp)
      refine go (a.toNat - 48) _ ?_ ?_ (by omega)
      · simp only [numGo]; rw [if_neg (by omega)]; omega
      · rw [dd_small (by omega), digit_of h1.1]
    | [a, b], hl, hd, go =>
      have h1 := hd a (by simp)
      have h2 := hd b (by simp)
      have ha : a.toNat ≠ 48 := fun e => hl (.inr (.inr ⟨by simp, by simp; exact UInt8.toNat_inj.1 e⟩))
      refine go ((a.toNat - 48) * 10 + (b.toNat - 48)) _ ?_ ?_ (by omega)
      · simp only [numGo]; rw [if_neg (by omega), if_neg (by omega)]; omega
      · rw [dd_big (by omega), show ((a.toNat - 48) * 10 + (b.toNat - 48)) / 10 = a.toNat - 48 by omega, show ((a.toNat - 48) * 10 + (b.toNat - 48)) % 10 = b.toNat - 48 by omega, dd_small (by omega), digit_of h1.1, digit_of h2.1]
        rfl
    | [a, b, c], hl, hd, go =>
      have h1 := hd a (by simp)
      have h2 := hd b (by simp)
      have h3 := hd c (by simp)
      have ha : a.toNat ≠ 48 := fun e => hl (.inr (.inr ⟨by simp, by simp; exact UInt8.toNat_inj.1 e⟩))
      refine go (((a.toNat - 48) * 10 + (b.toNat - 48)) * 10 + (c.toNat - 48)) _ ?_ ?_ (by omega)
      · simp only [numGo]; rw [if_neg (by omega), if_neg (by omega), if_neg (by omega)]; omega
      · rw [dd_big (by omega), show (((a.toNat - 48) * 10 + (b.toNat - 48)) * 10 + (c.toNat - 48)) / 10 = (a.toNat - 48) * 10 + (b.toNat - 48) by omega, show (((a.toNat - 48) * 10 + (b.toNat - 48)) * 10 + (c.toNat - 48)) % 10 = c.toNat - 48 by omega,
          dd_big (by omega), show ((a.toNat - 48) * 10 + (b.toNat - 48)) / 10 = a.toNat - 48 by omega, show ((a.toNat - 48) * 10 + (b.toNat - 48)) % 10 = b.toNat - 48 by omega, dd_small (by omega), digit_of h1.1, digit_of h2.1, digit_of h3.1]
        rfl
    | [a, b, c, d], hl, hd, go =>
      have h1 := hd a (by simp)
      have h2 := hd b (by simp)
      have h3 := hd c (by simp)
      have h4 := hd d (by simp)
      have ha : a.toNat ≠ 48 := fun e => hl (.inr (.inr ⟨by simp, by simp; exact UInt8.toNat_inj.1 e⟩))
      refine go ((((a.toNat - 48) * 10 + (b.toNat - 48)) * 10 + (c.toNat - 48)) * 10 + (d.toNat - 48)) _ ?_ ?_ (by omega)
      · simp only [numGo]; rw [if_neg (by omega), if_neg (by omega), if_neg (by omega), if_neg (by omega)]; omega
      · rw [dd_big (by omega), show ((((a.toNat - 48) * 10 + (b.toNat - 48)) * 10 + (c.toNat - 48)) * 10 + (d.toNat - 48)) / 10 = ((a.toNat - 48) * 10 + (b.toNat - 48)) * 10 + (c.toNat - 48) by omega, show ((((a.toNat - 48) * 10 + (b.toNat - 48)) * 10 + (c.toNat - 48)) * 10 + (d.toNat - 48)) % 10 = d.toNat - 48 by omega,
          dd_big (by omega), show (((a.toNat - 48) * 10 + (b.toNat - 48)) * 10 + (c.toNat - 48)) / 10 = (a.toNat - 48) * 10 + (b.toNat - 48) by omega, show (((a.toNat - 48) * 10 + (b.toNat - 48)) * 10 + (c.toNat - 48)) % 10 = c.toNat - 48 by omega,
          dd_big (by omega), show ((a.toNat - 48) * 10 + (b.toNat - 48)) / 10 = a.toNat - 48 by omega, show ((a.toNat - 48) * 10 + (b.toNat - 48)) % 10 = b.toNat - 48 by omega, dd_small (by omega), digit_of h1.1, digit_of h2.1, digit_of h3.1, digit_of h4.1]
        rfl
    | [], hl, _, _ => exact absurd (.inl (by simp)) hl
    | a :: b :: c :: d :: e :: r, hl, _, _ => exact absurd (.inr (.inl (by simp))) hl

theorem numGo_snoc (x : UInt8) (hx : 48 ≤ x.toNat ∧ x.toNat ≤ 57) : ∀ (l : Bs) (n : Int), (∀ c ∈ l, 48 ≤ c.toNat ∧ c.toNat ≤ 57) → numGo n (l ++ [x]) = numGo n l * 10 + x.toNat - 48
  | [], n, _ => by simp only [List.nil_append, numGo]; rw [if_neg (by omega)]
  | y :: l, n, h => by
    have hy := h y (by simp)
    rw [List.cons_append, numGo, numGo, if_neg (by omega), if_neg (by omega)]
    exact numGo_snoc x hx l _ (fun c hc => h c (by simp [hc]))
theorem numGo_dd (u : Nat) : numGo 0 (Lib.decDigits u) = u := by
  induction u using Nat.strongRecOn with
  | _ u ih =>
    by_cases h : u < 10
    · rw [dd_small h]; simp only [numGo]; rw [digit_val h, if_neg (by omega)]; omega
    · rw [dd_big h, numGo_snoc _ (by rw [digit_val (by omega)]; omega) _ _ (dd_digits _), ih _ (by omega), digit_val (by omega)]
      omega
theorem dd_length4 (u : Nat) : ∀ k, u < 10 ^ (k + 1) → (Lib.decDigits u).length ≤ k + 1 := by
  intro k
  induction k generalizing u with
  | zero => intro h; rw [dd_small (by omega)]; simp
  | succ k ih =>
    intro h
    by_cases h10 : u < 10
    · rw [dd_small h10]; simp
    · rw [dd_big h10, List.length_append]
      have := ih (u / 10) (by rw [Nat.div_lt_iff_lt_mul (by omega)]; rw [Nat.pow_succ] at h; exact h)
      simp; omega
theorem dd_head0 (u : Nat) : 10 ≤ u → (Lib.decDigits u).head? ≠ some 48 := by
  induction u using Nat.strongRecOn with
  | _ u ih =>
    intro h
    rw [dd_big (by omega)]
    by_cases h2 : u / 10 < 10
    · rw [dd_small h2]
      simp only [List.cons_append, List.head?_cons]
      intro e
      have e2 := congrArg UInt8.toNat (Option.some.inj e)
      rw [digit_val h2] at e2
      have : (48 : UInt8).toNat = 48 := rfl
      omega
    · have := ih (u / 10) (by omega) (by omega)
      cases hd : Lib.decDigits (u / 10) with
      | nil => exact absurd hd (dd_ne _)
      | cons c r => rw [hd] at this; simpa using this
theorem num_itoa (v : Int) (h0 : 0 ≤ v) (h1 : v ≤ 9999) : numS (Lib.itoa v) = v := by
  obtain ⟨u, rfl⟩ : ∃ u : Nat, v = u := ⟨v.toNat, by omega⟩
  rw [itoa_nat]
  unfold numS
  have hl := dd_length4 u 3 (by omega)
  have hn := dd_ne u
  rw [if_neg, numGo_dd]
  rintro (h | h | ⟨h, h'⟩)
  · cases hd : Lib.decDigits u with
    | nil => exact hn hd
    | cons c r => rw [hd] at h; simp at h
  · omega
  · by_cases h10 : u < 10
    · rw [dd_small h10] at h; simp at h
    · exact dd_head0 u (by omega) h'
end Go.Proofs.YtodiohoiekkodaaDoor.Sp
end
