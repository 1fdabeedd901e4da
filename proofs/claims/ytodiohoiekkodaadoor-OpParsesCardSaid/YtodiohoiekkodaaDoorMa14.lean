/- The walk of the reference's Parse, way by way (printed by prgen.py). The walk of the reference's Parse, way by way (printed by prgen.py). The reference's Parse, whatever the line. -/
import Derived.Test.YtodiohoiekkodaaDoorMa13
section
set_option linter.unusedVariables false
namespace Go.Proofs.YtodiohoiekkodaaDoor.Op
open Go.RowKit Go.Proofs.YtodiohoiekkodaaDoor.Bd Go.Proofs.YtodiohoiekkodaaDoor.Sp Go.Proofs.YtodiohoiekkodaaDoor.Rf Go.Proofs.YtodiohoiekkodaaDoorW.PrintWords
set_option maxHeartbeats 600000 in
set_option maxRecDepth 100000 in
theorem rp_kPub_truetrue (s x : ByteArray) (a b : ByteArray) (w : World) (hs : s.size ≤ 1000) (hxr : words s = [x, a, b]) (hx : x = kPub) (hu : unwO a = true) (hw : unwO b = true) (sa : a.size ≤ 100000) (sb : b.size ≤ 100000) :
    Calls Tryd.prog 15 #[.string s] w fun e w' => e = .returned (refParseV s) ∧ Below w.heap.size w w' := by
  have hv : refParseV s = .tuple #[.agg #[.int .i64 3, .int .i64 0, .string (unwT a), .string (unwT b), .bool false], .int .i64 0] := by
    unfold refParseV; rw [hxr, hx]
    have e1 : kindOK kPub = true := by decide
    have e2 : kindK kPub = 3 := by decide
    have e3 : kindKeep kPub = false := by decide
    simp [e1, e2, e3, refR, hu, hw]
  have q0 : (x.toList == ([115, 117, 98] : Bs)) = false := by rw [tl_eq]; exact decide_eq_false (by rw [hx]; decide)
  have q1 : (x.toList == ([117, 110, 115, 117, 98] : Bs)) = false := by rw [tl_eq]; exact decide_eq_false (by rw [hx]; decide)
  have q2 : (x.toList == ([112, 117, 98] : Bs)) = true := by rw [tl_eq]; exact decide_eq_true hx
  have HV := Lib.hid hv
  have hsp : ∀ w, Calls Tryd.prog 40 #[.string s] w fun e w' => ∃ g c, e = .returned (.slice (some ⟨g, 0, none⟩) 3 c) ∧ w.heap.size ≤ g ∧ g < w'.heap.size ∧ (∀ j x, (words s)[j]? = some x → w'.cell? ⟨g, j, none⟩ = some (.string x)) ∧ Below w.heap.size w w' := by
    intro w; have h := rsplit_any s w (by omega); have e : (words s).length = 3 := by rw [hxr]; rfl
    rw [e] at h; exact h
  have HSP := Lib.hid hsp
  have HXR := Lib.hid hxr
  have rs0 : XAt w.heap.size 0 0 ⟨#[]⟩ ⟨#[]⟩ false (w.alloc (.cells #[.int .i64 0, .int .i64 0, .string ⟨#[]⟩, .string ⟨#[]⟩, .bool false] 23)) := heap_alloc_new _ _
  have HR0 := Lib.hid rs0
  clear hv hsp rs0 hxr hx
  go_enter Tryd.func15, Tryd.ntmps15
  go_wp2_with fail
  refine (HSP.out _).mono ?_
  rintro e w1 ⟨g, c, rfl, hg1, hg2, hcl, hb1⟩
  have d0 : ∀ o, (w1.alloc o).cell? ⟨g, 0, none⟩ = some (.string x) := (fun o => keep_cell ((Below.refl _ _).alloc (Nat.le_refl _) o) (hcl 0 x (by rw [HXR.out]; rfl)))
  have d1 : (w1.alloc (.cells #[.int .i64 3, .int .i64 0, .string ⟨#[]⟩, .string ⟨#[]⟩, .bool false] 23)).cell? ⟨g, 1, none⟩ = some (.string a) := keep_cell ((Below.refl _ _).alloc (Nat.le_refl _) _) (hcl 1 a (by rw [HXR.out]; rfl))
  have d2 : (w1.alloc (.cells #[.int .i64 3, .int .i64 0, .string ⟨#[]⟩, .string ⟨#[]⟩, .bool false] 23)).cell? ⟨g, 2, none⟩ = some (.string b) := keep_cell ((Below.refl _ _).alloc (Nat.le_refl _) _) (hcl 2 b (by rw [HXR.out]; rfl))
  have w1b : w.heap.size + 1 ≤ w1.heap.size := by have := hb1.size; simp at this; omega
  have hn : XAt w.heap.size 0 0 ⟨#[]⟩ ⟨#[]⟩ false (w1.alloc (.cells #[.int .i64 3, .int .i64 0, .string ⟨#[]⟩, .string ⟨#[]⟩, .bool false] 23)) := (Below.heap_alloc _ _ _ (by omega)).trans ((hb1.block _ (by simp)).trans HR0.out)
  have hx : XAt w1.heap.size 3 0 ⟨#[]⟩ ⟨#[]⟩ false (w1.alloc (.cells #[.int .i64 3, .int .i64 0, .string ⟨#[]⟩, .string ⟨#[]⟩, .bool false] 23)) := heap_alloc_new _ _
  have hb : Below w.heap.size w (w1.alloc (.cells #[.int .i64 3, .int .i64 0, .string ⟨#[]⟩, .string ⟨#[]⟩, .bool false] 23)) := (((Below.refl _ w).alloc (Nat.le_refl _) _).trans (hb1.mono (by simp))).alloc (by omega) _
  have HNE : Hid (w.heap.size ≠ w1.heap.size) := Lib.hid (by omega)
  have HG : Hid (g ≠ w1.heap.size) := Lib.hid (by omega)
  have HLE : Hid (w.heap.size ≤ w1.heap.size) := Lib.hid (by omega)
  have HN := Lib.hid hn; have HX := Lib.hid hx; have HB := Lib.hid hb
  have c0 := opc0 hn; have c1 := opc1 hn; have c2 := opc2 hn; have c3 := opc3 hn; have c4 := opc4 hn; have cf := opf hn
  clear hn hx hb hg1 hg2 hcl hb1 HR0 w1b
  have HU := Lib.hid hu; have HW := Lib.hid hw; clear hu hw
  go_wp2_with fail
  refine (runw_any a _ sa).mono ?_
  rintro e w2 ⟨rfl, hb2⟩
  rw [HU.out]
  have x2 : XAt w1.heap.size 3 0 ⟨#[]⟩ ⟨#[]⟩ false w2 := keepX hb2 HX.out
  have n2 : XAt w.heap.size 0 0 ⟨#[]⟩ ⟨#[]⟩ false w2 := keepX hb2 HN.out
  have b2 : Below w.heap.size w w2 := HB.out.trans (hb2.mono HB.out.size)
  have l3 := fun v => sets_cell w1.heap.size 2 v HG.out (keep_cell hb2 d2)
  have y20 := opc0 x2; have y21 := opc1 x2; have y22 := opc2 x2; have y23 := opc3 x2; have y24 := opc4 x2; have y2f := opf x2
  have X2 := Lib.hid (xset2 x2 (unwT a)); have N2 := Lib.hid (xoth HNE.out n2 2 (.string (unwT a))); have B2 := Lib.hid (b2.setCell (p := ⟨w1.heap.size, 2, none⟩) HLE.out (.string (unwT a)))
  clear hb2 x2 n2 b2
  go_wp2_with fail
  refine (runw_any b _ sb).mono ?_
  rintro e w3 ⟨rfl, hb3⟩
  rw [HW.out]
  have x3 : XAt w1.heap.size 3 0 (unwT a) ⟨#[]⟩ false w3 := keepX hb3 X2.out
  have n3 : XAt w.heap.size 0 0 ⟨#[]⟩ ⟨#[]⟩ false w3 := keepX hb3 N2.out
  have b3 : Below w.heap.size w w3 := B2.out.trans (hb3.mono B2.out.size)
  have y30 := opc0 x3; have y31 := opc1 x3; have y32 := opc2 x3; have y33 := opc3 x3; have y34 := opc4 x3; have y3f := opf x3
  have n30 := opc0 n3; have n31 := opc1 n3; have n32 := opc2 n3; have n33 := opc3 n3; have n34 := opc4 n3; have n3f := opf n3
  have b4 := b3.setCell (p := ⟨w1.heap.size, 3, none⟩) HLE.out (.string (unwT b))
  clear hb3 x3 n3
  have hne1 := HNE.out; have hne2 := HNE.out.symm
  go_wp2_with fail
  refine bodyPost_ret (v := refParseV s) ?_ rfl ⟨rfl, ?_⟩
  · rw [HV.out]
    simp [results, Tryd.results15, go_sem, n30, n31, n32, n33, n34]
  · exact (((((b4).setCell (Nat.le_refl _) _).setCell (Nat.le_refl _) _).setCell (Nat.le_refl _) _).setCell (Nat.le_refl _) _).setCell (Nat.le_refl _) _
set_option maxHeartbeats 600000 in
set_option maxRecDepth 100000 in
theorem rp_kPub_truefalse (s x : ByteArray) (a b : ByteArray) (w : World) (hs : s.size ≤ 1000) (hxr : words s = [x, a, b]) (hx : x = kPub) (hu : unwO a = true) (hw : unwO b = false) (sa : a.size ≤ 100000) (sb : b.size ≤ 100000) :
    Calls Tryd.prog 15 #[.string s] w fun e w' => e = .returned (refParseV s) ∧ Below w.heap.size w w' := by
  have hv : refParseV s = .tuple #[opZ, .int .i64 10] := by
    unfold refParseV; rw [hxr, hx]
    have e1 : kindOK kPub = true := by decide
    have e2 : kindK kPub = 3 := by decide
    have e3 : kindKeep kPub = false := by decide
    simp [e1, e2, refR, hu, hw]
  have q0 : (x.toList == ([115, 117, 98] : Bs)) = false := by rw [tl_eq]; exact decide_eq_false (by rw [hx]; decide)
  have q1 : (x.toList == ([117, 110, 115, 117, 98] : Bs)) = false := by rw [tl_eq]; exact decide_eq_false (by rw [hx]; decide)
  have q2 : (x.toList == ([112, 117, 98] : Bs)) = true := by rw [tl_eq]; exact decide_eq_true hx
  have HV := Lib.hid hv
  have hsp : ∀ w, Calls Tryd.prog 40 #[.string s] w fun e w' => ∃ g c, e = .returned (.slice (some ⟨g, 0, none⟩) 3 c) ∧ w.heap.size ≤ g ∧ g < w'.heap.size ∧ (∀ j x, (words s)[j]? = some x → w'.cell? ⟨g, j, none⟩ = some (.string x)) ∧ Below w.heap.size w w' := by
    intro w; have h := rsplit_any s w (by omega); have e : (words s).length = 3 := by rw [hxr]; rfl
    rw [e] at h; exact h
  have HSP := Lib.hid hsp
  have HXR := Lib.hid hxr
  have rs0 : XAt w.heap.size 0 0 ⟨#[]⟩ ⟨#[]⟩ false (w.alloc (.cells #[.int .i64 0, .int .i64 0, .string ⟨#[]⟩, .string ⟨#[]⟩, .bool false] 23)) := heap_alloc_new _ _
  have HR0 := Lib.hid rs0
  clear hv hsp rs0 hxr hx
  go_enter Tryd.func15, Tryd.ntmps15
  go_wp2_with fail
  refine (HSP.out _).mono ?_
  rintro e w1 ⟨g, c, rfl, hg1, hg2, hcl, hb1⟩
  have d0 : ∀ o, (w1.alloc o).cell? ⟨g, 0, none⟩ = some (.string x) := (fun o => keep_cell ((Below.refl _ _).alloc (Nat.le_refl _) o) (hcl 0 x (by rw [HXR.out]; rfl)))
  have d1 : (w1.alloc (.cells #[.int .i64 3, .int .i64 0, .string ⟨#[]⟩, .string ⟨#[]⟩, .bool false] 23)).cell? ⟨g, 1, none⟩ = some (.string a) := keep_cell ((Below.refl _ _).alloc (Nat.le_refl _) _) (hcl 1 a (by rw [HXR.out]; rfl))
  have d2 : (w1.alloc (.cells #[.int .i64 3, .int .i64 0, .string ⟨#[]⟩, .string ⟨#[]⟩, .bool false] 23)).cell? ⟨g, 2, none⟩ = some (.string b) := keep_cell ((Below.refl _ _).alloc (Nat.le_refl _) _) (hcl 2 b (by rw [HXR.out]; rfl))
  have w1b : w.heap.size + 1 ≤ w1.heap.size := by have := hb1.size; simp at this; omega
  have hn : XAt w.heap.size 0 0 ⟨#[]⟩ ⟨#[]⟩ false (w1.alloc (.cells #[.int .i64 3, .int .i64 0, .string ⟨#[]⟩, .string ⟨#[]⟩, .bool false] 23)) := (Below.heap_alloc _ _ _ (by omega)).trans ((hb1.block _ (by simp)).trans HR0.out)
  have hx : XAt w1.heap.size 3 0 ⟨#[]⟩ ⟨#[]⟩ false (w1.alloc (.cells #[.int .i64 3, .int .i64 0, .string ⟨#[]⟩, .string ⟨#[]⟩, .bool false] 23)) := heap_alloc_new _ _
  have hb : Below w.heap.size w (w1.alloc (.cells #[.int .i64 3, .int .i64 0, .string ⟨#[]⟩, .string ⟨#[]⟩, .bool false] 23)) := (((Below.refl _ w).alloc (Nat.le_refl _) _).trans (hb1.mono (by simp))).alloc (by omega) _
  have HNE : Hid (w.heap.size ≠ w1.heap.size) := Lib.hid (by omega)
  have HG : Hid (g ≠ w1.heap.size) := Lib.hid (by omega)
  have HLE : Hid (w.heap.size ≤ w1.heap.size) := Lib.hid (by omega)
  have HN := Lib.hid hn; have HX := Lib.hid hx; have HB := Lib.hid hb
  have c0 := opc0 hn; have c1 := opc1 hn; have c2 := opc2 hn; have c3 := opc3 hn; have c4 := opc4 hn; have cf := opf hn
  clear hn hx hb hg1 hg2 hcl hb1 HR0 w1b
  have HU := Lib.hid hu; have HW := Lib.hid hw; clear hu hw
  go_wp2_with fail
  refine (runw_any a _ sa).mono ?_
  rintro e w2 ⟨rfl, hb2⟩
  rw [HU.out]
  have x2 : XAt w1.heap.size 3 0 ⟨#[]⟩ ⟨#[]⟩ false w2 := keepX hb2 HX.out
  have n2 : XAt w.heap.size 0 0 ⟨#[]⟩ ⟨#[]⟩ false w2 := keepX hb2 HN.out
  have b2 : Below w.heap.size w w2 := HB.out.trans (hb2.mono HB.out.size)
  have l3 := fun v => sets_cell w1.heap.size 2 v HG.out (keep_cell hb2 d2)
  have y20 := opc0 x2; have y21 := opc1 x2; have y22 := opc2 x2; have y23 := opc3 x2; have y24 := opc4 x2; have y2f := opf x2
  have X2 := Lib.hid (xset2 x2 (unwT a)); have N2 := Lib.hid (xoth HNE.out n2 2 (.string (unwT a))); have B2 := Lib.hid (b2.setCell (p := ⟨w1.heap.size, 2, none⟩) HLE.out (.string (unwT a)))
  clear hb2 x2 n2 b2
  go_wp2_with fail
  refine (runw_any b _ sb).mono ?_
  rintro e w3 ⟨rfl, hb3⟩
  rw [HW.out]
  have x3 : XAt w1.heap.size 3 0 (unwT a) ⟨#[]⟩ false w3 := keepX hb3 X2.out
  have n3 : XAt w.heap.size 0 0 ⟨#[]⟩ ⟨#[]⟩ false w3 := keepX hb3 N2.out
  have b3 : Below w.heap.size w w3 := B2.out.trans (hb3.mono B2.out.size)
  have y30 := opc0 x3; have y31 := opc1 x3; have y32 := opc2 x3; have y33 := opc3 x3; have y34 := opc4 x3; have y3f := opf x3
  have n30 := opc0 n3; have n31 := opc1 n3; have n32 := opc2 n3; have n33 := opc3 n3; have n34 := opc4 n3; have n3f := opf n3
  have b4 := b3.setCell (p := ⟨w1.heap.size, 3, none⟩) HLE.out (.string (unwT b))
  clear hb3 x3 n3
  have hne1 := HNE.out; have hne2 := HNE.out.symm
  go_wp2_with fail
  refine bodyPost_ret (v := refParseV s) ?_ rfl ⟨rfl, ?_⟩
  · rw [HV.out]
    simp [results, Tryd.results15, go_sem, n30, n31, n32, n33, n34, opZ]
  · exact (((((b4).setCell (Nat.le_refl _) _).setCell (Nat.le_refl _) _).setCell (Nat.le_refl _) _).setCell (Nat.le_refl _) _).setCell (Nat.le_refl _) _
set_option maxHeartbeats 600000 in
set_option maxRecDepth 100000 in
theorem rp_kPub_falsetrue (s x : ByteArray) (a b : ByteArray) (w : World) (hs : s.size ≤ 1000) (hxr : words s = [x, a, b]) (hx : x = kPub) (hu : unwO a = false) (hw : unwO b = true) (sa : a.size ≤ 100000) (sb : b.size ≤ 100000) :
    Calls Tryd.prog 15 #[.string s] w fun e w' => e = .returned (refParseV s) ∧ Below w.heap.size w w' := by
  have hv : refParseV s = .tuple #[opZ, .int .i64 10] := by
    unfold refParseV; rw [hxr, hx]
    have e1 : kindOK kPub = true := by decide
    have e2 : kindK kPub = 3 := by decide
    have e3 : kindKeep kPub = false := by decide
    simp [e1, e2, refR, hu, hw]
  have q0 : (x.toList == ([115, 117, 98] : Bs)) = false := by rw [tl_eq]; exact decide_eq_false (by rw [hx]; decide)
  have q1 : (x.toList == ([117, 110, 115, 117, 98] : Bs)) = false := by rw [tl_eq]; exact decide_eq_false (by rw [hx]; decide)
  have q2 : (x.toList == ([112, 117, 98] : Bs)) = true := by rw [tl_eq]; exact decide_eq_true hx
  have HV := Lib.hid hv
  have hsp : ∀ w, Calls Tryd.prog 40 #[.string s] w fun e w' => ∃ g c, e = .returned (.slice (some ⟨g, 0, none⟩) 3 c) ∧ w.heap.size ≤ g ∧ g < w'.heap.size ∧ (∀ j x, (words s)[j]? = some x → w'.cell? ⟨g, j, none⟩ = some (.string x)) ∧ Below w.heap.size w w' := by
    intro w; have h := rsplit_any s w (by omega); have e : (words s).length = 3 := by rw [hxr]; rfl
    rw [e] at h; exact h
  have HSP := Lib.hid hsp
  have HXR := Lib.hid hxr
  have rs0 : XAt w.heap.size 0 0 ⟨#[]⟩ ⟨#[]⟩ false (w.alloc (.cells #[.int .i64 0, .int .i64 0, .string ⟨#[]⟩, .string ⟨#[]⟩, .bool false] 23)) := heap_alloc_new _ _
  have HR0 := Lib.hid rs0
  clear hv hsp rs0 hxr hx
  go_enter Tryd.func15, Tryd.ntmps15
  go_wp2_with fail
  refine (HSP.out _).mono ?_
  rintro e w1 ⟨g, c, rfl, hg1, hg2, hcl, hb1⟩
  have d0 : ∀ o, (w1.alloc o).cell? ⟨g, 0, none⟩ = some (.string x) := (fun o => keep_cell ((Below.refl _ _).alloc (Nat.le_refl _) o) (hcl 0 x (by rw [HXR.out]; rfl)))
  have d1 : (w1.alloc (.cells #[.int .i64 3, .int .i64 0, .string ⟨#[]⟩, .string ⟨#[]⟩, .bool false] 23)).cell? ⟨g, 1, none⟩ = some (.string a) := keep_cell ((Below.refl _ _).alloc (Nat.le_refl _) _) (hcl 1 a (by rw [HXR.out]; rfl))
  have d2 : (w1.alloc (.cells #[.int .i64 3, .int .i64 0, .string ⟨#[]⟩, .string ⟨#[]⟩, .bool false] 23)).cell? ⟨g, 2, none⟩ = some (.string b) := keep_cell ((Below.refl _ _).alloc (Nat.le_refl _) _) (hcl 2 b (by rw [HXR.out]; rfl))
  have w1b : w.heap.size + 1 ≤ w1.heap.size := by have := hb1.size; simp at this; omega
  have hn : XAt w.heap.size 0 0 ⟨#[]⟩ ⟨#[]⟩ false (w1.alloc (.cells #[.int .i64 3, .int .i64 0, .string ⟨#[]⟩, .string ⟨#[]⟩, .bool false] 23)) := (Below.heap_alloc _ _ _ (by omega)).trans ((hb1.block _ (by simp)).trans HR0.out)
  have hx : XAt w1.heap.size 3 0 ⟨#[]⟩ ⟨#[]⟩ false (w1.alloc (.cells #[.int .i64 3, .int .i64 0, .string ⟨#[]⟩, .string ⟨#[]⟩, .bool false] 23)) := heap_alloc_new _ _
  have hb : Below w.heap.size w (w1.alloc (.cells #[.int .i64 3, .int .i64 0, .string ⟨#[]⟩, .string ⟨#[]⟩, .bool false] 23)) := (((Below.refl _ w).alloc (Nat.le_refl _) _).trans (hb1.mono (by simp))).alloc (by omega) _
  have HNE : Hid (w.heap.size ≠ w1.heap.size) := Lib.hid (by omega)
  have HG : Hid (g ≠ w1.heap.size) := Lib.hid (by omega)
  have HLE : Hid (w.heap.size ≤ w1.heap.size) := Lib.hid (by omega)
  have HN := Lib.hid hn; have HX := Lib.hid hx; have HB := Lib.hid hb
  have c0 := opc0 hn; have c1 := opc1 hn; have c2 := opc2 hn; have c3 := opc3 hn; have c4 := opc4 hn; have cf := opf hn
  clear hn hx hb hg1 hg2 hcl hb1 HR0 w1b
  have HU := Lib.hid hu; have HW := Lib.hid hw; clear hu hw
  go_wp2_with fail
  refine (runw_any a _ sa).mono ?_
  rintro e w2 ⟨rfl, hb2⟩
  rw [HU.out]
  have x2 : XAt w1.heap.size 3 0 ⟨#[]⟩ ⟨#[]⟩ false w2 := keepX hb2 HX.out
  have n2 : XAt w.heap.size 0 0 ⟨#[]⟩ ⟨#[]⟩ false w2 := keepX hb2 HN.out
  have b2 : Below w.heap.size w w2 := HB.out.trans (hb2.mono HB.out.size)
  have l3 := fun v => sets_cell w1.heap.size 2 v HG.out (keep_cell hb2 d2)
  have y20 := opc0 x2; have y21 := opc1 x2; have y22 := opc2 x2; have y23 := opc3 x2; have y24 := opc4 x2; have y2f := opf x2
  have X2 := Lib.hid (xset2 x2 (unwT a)); have N2 := Lib.hid (xoth HNE.out n2 2 (.string (unwT a))); have B2 := Lib.hid (b2.setCell (p := ⟨w1.heap.size, 2, none⟩) HLE.out (.string (unwT a)))
  clear hb2 x2 n2 b2
  go_wp2_with fail
  refine (runw_any b _ sb).mono ?_
  rintro e w3 ⟨rfl, hb3⟩
  rw [HW.out]
  have x3 : XAt w1.heap.size 3 0 (unwT a) ⟨#[]⟩ false w3 := keepX hb3 X2.out
  have n3 : XAt w.heap.size 0 0 ⟨#[]⟩ ⟨#[]⟩ false w3 := keepX hb3 N2.out
  have b3 : Below w.heap.size w w3 := B2.out.trans (hb3.mono B2.out.size)
  have y30 := opc0 x3; have y31 := opc1 x3; have y32 := opc2 x3; have y33 := opc3 x3; have y34 := opc4 x3; have y3f := opf x3
  have n30 := opc0 n3; have n31 := opc1 n3; have n32 := opc2 n3; have n33 := opc3 n3; have n34 := opc4 n3; have n3f := opf n3
  have b4 := b3.setCell (p := ⟨w1.heap.size, 3, none⟩) HLE.out (.string (unwT b))
  clear hb3 x3 n3
  have hne1 := HNE.out; have hne2 := HNE.out.symm
  go_wp2_with fail
  refine bodyPost_ret (v := refParseV s) ?_ rfl ⟨rfl, ?_⟩
  · rw [HV.out]
    simp [results, Tryd.results15, go_sem, n30, n31, n32, n33, n34, opZ]
  · exact (((((b4).setCell (Nat.le_refl _) _).setCell (Nat.le_refl _) _).setCell (Nat.le_refl _) _).setCell (Nat.le_refl _) _).setCell (Nat.le_refl _) _
set_option maxHeartbeats 600000 in
set_option maxRecDepth 100000 in
theorem rp_kPub_falsefalse (s x : ByteArray) (a b : ByteArray) (w : World) (hs : s.size ≤ 1000) (hxr : words s = [x, a, b]) (hx : x = kPub) (hu : unwO a = false) (hw : unwO b = false) (sa : a.size ≤ 100000) (sb : b.size ≤ 100000) :
    Calls Tryd.prog 15 #[.string s] w fun e w' => e = .returned (refParseV s) ∧ Below w.heap.size w w' := by
  have hv : refParseV s = .tuple #[opZ, .int .i64 10] := by
    unfold refParseV; rw [hxr, hx]
    have e1 : kindOK kPub = true := by decide
    have e2 : kindK kPub = 3 := by decide
    have e3 : kindKeep kPub = false := by decide
    simp [e1, e2, refR, hu, hw]
  have q0 : (x.toList == ([115, 117, 98] : Bs)) = false := by rw [tl_eq]; exact decide_eq_false (by rw [hx]; decide)
  have q1 : (x.toList == ([117, 110, 115, 117, 98] : Bs)) = false := by rw [tl_eq]; exact decide_eq_false (by rw [hx]; decide)
  have q2 : (x.toList == ([112, 117, 98] : Bs)) = true := by rw [tl_eq]; exact decide_eq_true hx
  have HV := Lib.hid hv
  have hsp : ∀ w, Calls Tryd.prog 40 #[.string s] w fun e w' => ∃ g c, e = .returned (.slice (some ⟨g, 0, none⟩) 3 c) ∧ w.heap.size ≤ g ∧ g < w'.heap.size ∧ (∀ j x, (words s)[j]? = some x → w'.cell? ⟨g, j, none⟩ = some (.string x)) ∧ Below w.heap.size w w' := by
    intro w; have h := rsplit_any s w (by omega); have e : (words s).length = 3 := by rw [hxr]; rfl
    rw [e] at h; exact h
  have HSP := Lib.hid hsp
  have HXR := Lib.hid hxr
  have rs0 : XAt w.heap.size 0 0 ⟨#[]⟩ ⟨#[]⟩ false (w.alloc (.cells #[.int .i64 0, .int .i64 0, .string ⟨#[]⟩, .string ⟨#[]⟩, .bool false] 23)) := heap_alloc_new _ _
  have HR0 := Lib.hid rs0
  clear hv hsp rs0 hxr hx
  go_enter Tryd.func15, Tryd.ntmps15
  go_wp2_with fail
  refine (HSP.out _).mono ?_
  rintro e w1 ⟨g, c, rfl, hg1, hg2, hcl, hb1⟩
  have d0 : ∀ o, (w1.alloc o).cell? ⟨g, 0, none⟩ = some (.string x) := (fun o => keep_cell ((Below.refl _ _).alloc (Nat.le_refl _) o) (hcl 0 x (by rw [HXR.out]; rfl)))
  have d1 : (w1.alloc (.cells #[.int .i64 3, .int .i64 0, .string ⟨#[]⟩, .string ⟨#[]⟩, .bool false] 23)).cell? ⟨g, 1, none⟩ = some (.string a) := keep_cell ((Below.refl _ _).alloc (Nat.le_refl _) _) (hcl 1 a (by rw [HXR.out]; rfl))
  have d2 : (w1.alloc (.cells #[.int .i64 3, .int .i64 0, .string ⟨#[]⟩, .string ⟨#[]⟩, .bool false] 23)).cell? ⟨g, 2, none⟩ = some (.string b) := keep_cell ((Below.refl _ _).alloc (Nat.le_refl _) _) (hcl 2 b (by rw [HXR.out]; rfl))
  have w1b : w.heap.size + 1 ≤ w1.heap.size := by have := hb1.size; simp at this; omega
  have hn : XAt w.heap.size 0 0 ⟨#[]⟩ ⟨#[]⟩ false (w1.alloc (.cells #[.int .i64 3, .int .i64 0, .string ⟨#[]⟩, .string ⟨#[]⟩, .bool false] 23)) := (Below.heap_alloc _ _ _ (by omega)).trans ((hb1.block _ (by simp)).trans HR0.out)
  have hx : XAt w1.heap.size 3 0 ⟨#[]⟩ ⟨#[]⟩ false (w1.alloc (.cells #[.int .i64 3, .int .i64 0, .string ⟨#[]⟩, .string ⟨#[]⟩, .bool false] 23)) := heap_alloc_new _ _
  have hb : Below w.heap.size w (w1.alloc (.cells #[.int .i64 3, .int .i64 0, .string ⟨#[]⟩, .string ⟨#[]⟩, .bool false] 23)) := (((Below.refl _ w).alloc (Nat.le_refl _) _).trans (hb1.mono (by simp))).alloc (by omega) _
  have HNE : Hid (w.heap.size ≠ w1.heap.size) := Lib.hid (by omega)
  have HG : Hid (g ≠ w1.heap.size) := Lib.hid (by omega)
  have HLE : Hid (w.heap.size ≤ w1.heap.size) := Lib.hid (by omega)
  have HN := Lib.hid hn; have HX := Lib.hid hx; have HB := Lib.hid hb
  have c0 := opc0 hn; have c1 := opc1 hn; have c2 := opc2 hn; have c3 := opc3 hn; have c4 := opc4 hn; have cf := opf hn
  clear hn hx hb hg1 hg2 hcl hb1 HR0 w1b
  have HU := Lib.hid hu; have HW := Lib.hid hw; clear hu hw
  go_wp2_with fail
  refine (runw_any a _ sa).mono ?_
  rintro e w2 ⟨rfl, hb2⟩
  rw [HU.out]
  have x2 : XAt w1.heap.size 3 0 ⟨#[]⟩ ⟨#[]⟩ false w2 := keepX hb2 HX.out
  have n2 : XAt w.heap.size 0 0 ⟨#[]⟩ ⟨#[]⟩ false w2 := keepX hb2 HN.out
  have b2 : Below w.heap.size w w2 := HB.out.trans (hb2.mono HB.out.size)
  have l3 := fun v => sets_cell w1.heap.size 2 v HG.out (keep_cell hb2 d2)
  have y20 := opc0 x2; have y21 := opc1 x2; have y22 := opc2 x2; have y23 := opc3 x2; have y24 := opc4 x2; have y2f := opf x2
  have X2 := Lib.hid (xset2 x2 (unwT a)); have N2 := Lib.hid (xoth HNE.out n2 2 (.string (unwT a))); have B2 := Lib.hid (b2.setCell (p := ⟨w1.heap.size, 2, none⟩) HLE.out (.string (unwT a)))
  clear hb2 x2 n2 b2
  go_wp2_with fail
  refine (runw_any b _ sb).mono ?_
  rintro e w3 ⟨rfl, hb3⟩
  rw [HW.out]
  have x3 : XAt w1.heap.size 3 0 (unwT a) ⟨#[]⟩ false w3 := keepX hb3 X2.out
  have n3 : XAt w.heap.size 0 0 ⟨#[]⟩ ⟨#[]⟩ false w3 := keepX hb3 N2.out
  have b3 : Below w.heap.size w w3 := B2.out.trans (hb3.mono B2.out.size)
  have y30 := opc0 x3; have y31 := opc1 x3; have y32 := opc2 x3; have y33 := opc3 x3; have y34 := opc4 x3; have y3f := opf x3
  have n30 := opc0 n3; have n31 := opc1 n3; have n32 := opc2 n3; have n33 := opc3 n3; have n34 := opc4 n3; have n3f := opf n3
  have b4 := b3.setCell (p := ⟨w1.heap.size, 3, none⟩) HLE.out (.string (unwT b))
  clear hb3 x3 n3
  have hne1 := HNE.out; have hne2 := HNE.out.symm
  go_wp2_with fail
  refine bodyPost_ret (v := refParseV s) ?_ rfl ⟨rfl, ?_⟩
  · rw [HV.out]
    simp [results, Tryd.results15, go_sem, n30, n31, n32, n33, n34, opZ]
  · exact (((((b4).setCell (Nat.le_refl _) _).setCell (Nat.le_refl _) _).setCell (Nat.le_refl _) _).setCell (Nat.le_refl _) _).setCell (Nat.le_refl _) _
set_option maxHeartbeats 600000 in
set_option maxRecDepth 100000 in
theorem rp_kKeep_truetrue (s x : ByteArray) (a b : ByteArray) (w : World) (hs : s.size ≤ 1000) (hxr : words s = [x, a, b]) (hx : x = kKeep) (hu : unwO a = true) (hw : unwO b = true) (sa : a.size ≤ 100000) (sb : b.size ≤ 100000) :
    Calls Tryd.prog 15 #[.string s] w fun e w' => e = .returned (refParseV s) ∧ Below w.heap.size w w' := by
  have hv : refParseV s = .tuple #[.agg #[.int .i64 3, .int .i64 0, .string (unwT a), .string (unwT b), .bool true], .int .i64 0] := by
    unfold refParseV; rw [hxr, hx]
    have e1 : kindOK kKeep = true := by decide
    have e2 : kindK kKeep = 3 := by decide
    have e3 : kindKeep kKeep = true := by decide
    simp [e1, e2, e3, refR, hu, hw]
  have q0 : (x.toList == ([115, 117, 98] : Bs)) = false := by rw [tl_eq]; exact decide_eq_false (by rw [hx]; decide)
  have q1 : (x.toList == ([117, 110, 115, 117, 98] : Bs)) = false := by rw [tl_eq]; exact decide_eq_false (by rw [hx]; decide)
  have q2 : (x.toList == ([112, 117, 98] : Bs)) = false := by rw [tl_eq]; exact decide_eq_false (by rw [hx]; decide)
  have q3 : (x.toList == ([107, 101, 101, 112] : Bs)) = true := by rw [tl_eq]; exact decide_eq_true hx
  have HV := Lib.hid hv
  have hsp : ∀ w, Calls Tryd.prog 40 #[.string s] w fun e w' => ∃ g c, e = .returned (.slice (some ⟨g, 0, none⟩) 3 c) ∧ w.heap.size ≤ g ∧ g < w'.heap.size ∧ (∀ j x, (words s)[j]? = some x → w'.cell? ⟨g, j, none⟩ = some (.string x)) ∧ Below w.heap.size w w' := by
    intro w; have h := rsplit_any s w (by omega); have e : (words s).length = 3 := by rw [hxr]; rfl
    rw [e] at h; exact h
  have HSP := Lib.hid hsp
  have HXR := Lib.hid hxr
  have rs0 : XAt w.heap.size 0 0 ⟨#[]⟩ ⟨#[]⟩ false (w.alloc (.cells #[.int .i64 0, .int .i64 0, .string ⟨#[]⟩, .string ⟨#[]⟩, .bool false] 23)) := heap_alloc_new _ _
  have HR0 := Lib.hid rs0
  clear hv hsp rs0 hxr hx
  go_enter Tryd.func15, Tryd.ntmps15
  go_wp2_with fail
  refine (HSP.out _).mono ?_
  rintro e w1 ⟨g, c, rfl, hg1, hg2, hcl, hb1⟩
  have d0 : ∀ o, (w1.alloc o).cell? ⟨g, 0, none⟩ = some (.string x) := (fun o => keep_cell ((Below.refl _ _).alloc (Nat.le_refl _) o) (hcl 0 x (by rw [HXR.out]; rfl)))
  have d1 : (w1.alloc (.cells #[.int .i64 3, .int .i64 0, .string ⟨#[]⟩, .string ⟨#[]⟩, .bool true] 23)).cell? ⟨g, 1, none⟩ = some (.string a) := keep_cell ((Below.refl _ _).alloc (Nat.le_refl _) _) (hcl 1 a (by rw [HXR.out]; rfl))
  have d2 : (w1.alloc (.cells #[.int .i64 3, .int .i64 0, .string ⟨#[]⟩, .string ⟨#[]⟩, .bool true] 23)).cell? ⟨g, 2, none⟩ = some (.string b) := keep_cell ((Below.refl _ _).alloc (Nat.le_refl _) _) (hcl 2 b (by rw [HXR.out]; rfl))
  have w1b : w.heap.size + 1 ≤ w1.heap.size := by have := hb1.size; simp at this; omega
  have hn : XAt w.heap.size 0 0 ⟨#[]⟩ ⟨#[]⟩ false (w1.alloc (.cells #[.int .i64 3, .int .i64 0, .string ⟨#[]⟩, .string ⟨#[]⟩, .bool true] 23)) := (Below.heap_alloc _ _ _ (by omega)).trans ((hb1.block _ (by simp)).trans HR0.out)
  have hx : XAt w1.heap.size 3 0 ⟨#[]⟩ ⟨#[]⟩ true (w1.alloc (.cells #[.int .i64 3, .int .i64 0, .string ⟨#[]⟩, .string ⟨#[]⟩, .bool true] 23)) := heap_alloc_new _ _
  have hb : Below w.heap.size w (w1.alloc (.cells #[.int .i64 3, .int .i64 0, .string ⟨#[]⟩, .string ⟨#[]⟩, .bool true] 23)) := (((Below.refl _ w).alloc (Nat.le_refl _) _).trans (hb1.mono (by simp))).alloc (by omega) _
  have HNE : Hid (w.heap.size ≠ w1.heap.size) := Lib.hid (by omega)
  have HG : Hid (g ≠ w1.heap.size) := Lib.hid (by omega)
  have HLE : Hid (w.heap.size ≤ w1.heap.size) := Lib.hid (by omega)
  have HN := Lib.hid hn; have HX := Lib.hid hx; have HB := Lib.hid hb
  have c0 := opc0 hn; have c1 := opc1 hn; have c2 := opc2 hn; have c3 := opc3 hn; have c4 := opc4 hn; have cf := opf hn
  clear hn hx hb hg1 hg2 hcl hb1 HR0 w1b
  have HU := Lib.hid hu; have HW := Lib.hid hw; clear hu hw
  go_wp2_with fail
  refine (runw_any a _ sa).mono ?_
  rintro e w2 ⟨rfl, hb2⟩
  rw [HU.out]
  have x2 : XAt w1.heap.size 3 0 ⟨#[]⟩ ⟨#[]⟩ true w2 := keepX hb2 HX.out
  have n2 : XAt w.heap.size 0 0 ⟨#[]⟩ ⟨#[]⟩ false w2 := keepX hb2 HN.out
  have b2 : Below w.heap.size w w2 := HB.out.trans (hb2.mono HB.out.size)
  have l3 := fun v => sets_cell w1.heap.size 2 v HG.out (keep_cell hb2 d2)
  have y20 := opc0 x2; have y21 := opc1 x2; have y22 := opc2 x2; have y23 := opc3 x2; have y24 := opc4 x2; have y2f := opf x2
  have X2 := Lib.hid (xset2 x2 (unwT a)); have N2 := Lib.hid (xoth HNE.out n2 2 (.string (unwT a))); have B2 := Lib.hid (b2.setCell (p := ⟨w1.heap.size, 2, none⟩) HLE.out (.string (unwT a)))
  clear hb2 x2 n2 b2
  go_wp2_with fail
  refine (runw_any b _ sb).mono ?_
  rintro e w3 ⟨rfl, hb3⟩
  rw [HW.out]
  have x3 : XAt w1.heap.size 3 0 (unwT a) ⟨#[]⟩ true w3 := keepX hb3 X2.out
  have n3 : XAt w.heap.size 0 0 ⟨#[]⟩ ⟨#[]⟩ false w3 := keepX hb3 N2.out
  have b3 : Below w.heap.size w w3 := B2.out.trans (hb3.mono B2.out.size)
  have y30 := opc0 x3; have y31 := opc1 x3; have y32 := opc2 x3; have y33 := opc3 x3; have y34 := opc4 x3; have y3f := opf x3
  have n30 := opc0 n3; have n31 := opc1 n3; have n32 := opc2 n3; have n33 := opc3 n3; have n34 := opc4 n3; have n3f := opf n3
  have b4 := b3.setCell (p := ⟨w1.heap.size, 3, none⟩) HLE.out (.string (unwT b))
  clear hb3 x3 n3
  have hne1 := HNE.out; have hne2 := HNE.out.symm
  go_wp2_with fail
  refine bodyPost_ret (v := refParseV s) ?_ rfl ⟨rfl, ?_⟩
  · rw [HV.out]
    simp [results, Tryd.results15, go_sem, n30, n31, n32, n33, n34]
  · exact (((((b4).setCell (Nat.le_refl _) _).setCell (Nat.le_refl _) _).setCell (Nat.le_refl _) _).setCell (Nat.le_refl _) _).setCell (Nat.le_refl _) _
set_option maxHeartbeats 600000 in
set_option maxRecDepth 100000 in
theorem rp_kKeep_truefalse (s x : ByteArray) (a b : ByteArray) (w : World) (hs : s.size ≤ 1000) (hxr : words s = [x, a, b]) (hx : x = kKeep) (hu : unwO a = true) (hw : unwO b = false) (sa : a.size ≤ 100000) (sb : b.size ≤ 100000) :
    Calls Tryd.prog 15 #[.string s] w fun e w' => e = .returned (refParseV s) ∧ Below w.heap.size w w' := by
  have hv : refParseV s = .tuple #[opZ, .int .i64 10] := by
    unfold refParseV; rw [hxr, hx]
    have e1 : kindOK kKeep = true := by decide
    have e2 : kindK kKeep = 3 := by decide
    have e3 : kindKeep kKeep = true := by decide
    simp [e1, e2, refR, hu, hw]
  have q0 : (x.toList == ([115, 117, 98] : Bs)) = false := by rw [tl_eq]; exact decide_eq_false (by rw [hx]; decide)
  have q1 : (x.toList == ([117, 110, 115, 117, 98] : Bs)) = false := by rw [tl_eq]; exact decide_eq_false (by rw [hx]; decide)
  have q2 : (x.toList == ([112, 117, 98] : Bs)) = false := by rw [tl_eq]; exact decide_eq_false (by rw [hx]; decide)
  have q3 : (x.toList == ([107, 101, 101, 112] : Bs)) = true := by rw [tl_eq]; exact decide_eq_true hx
  have HV := Lib.hid hv
  have hsp : ∀ w, Calls Tryd.prog 40 #[.string s] w fun e w' => ∃ g c, e = .returned (.slice (some ⟨g, 0, none⟩) 3 c) ∧ w.heap.size ≤ g ∧ g < w'.heap.size ∧ (∀ j x, (words s)[j]? = some x → w'.cell? ⟨g, j, none⟩ = some (.string x)) ∧ Below w.heap.size w w' := by
    intro w; have h := rsplit_any s w (by omega); have e : (words s).length = 3 := by rw [hxr]; rfl
    rw [e] at h; exact h
  have HSP := Lib.hid hsp
  have HXR := Lib.hid hxr
  have rs0 : XAt w.heap.size 0 0 ⟨#[]⟩ ⟨#[]⟩ false (w.alloc (.cells #[.int .i64 0, .int .i64 0, .string ⟨#[]⟩, .string ⟨#[]⟩, .bool false] 23)) := heap_alloc_new _ _
  have HR0 := Lib.hid rs0
  clear hv hsp rs0 hxr hx
  go_enter Tryd.func15, Tryd.ntmps15
  go_wp2_with fail
  refine (HSP.out _).mono ?_
  rintro e w1 ⟨g, c, rfl, hg1, hg2, hcl, hb1⟩
  have d0 : ∀ o, (w1.alloc o).cell? ⟨g, 0, none⟩ = some (.string x) := (fun o => keep_cell ((Below.refl _ _).alloc (Nat.le_refl _) o) (hcl 0 x (by rw [HXR.out]; rfl)))
  have d1 : (w1.alloc (.cells #[.int .i64 3, .int .i64 0, .string ⟨#[]⟩, .string ⟨#[]⟩, .bool true] 23)).cell? ⟨g, 1, none⟩ = some (.string a) := keep_cell ((Below.refl _ _).alloc (Nat.le_refl _) _) (hcl 1 a (by rw [HXR.out]; rfl))
  have d2 : (w1.alloc (.cells #[.int .i64 3, .int .i64 0, .string ⟨#[]⟩, .string ⟨#[]⟩, .bool true] 23)).cell? ⟨g, 2, none⟩ = some (.string b) := keep_cell ((Below.refl _ _).alloc (Nat.le_refl _) _) (hcl 2 b (by rw [HXR.out]; rfl))
  have w1b : w.heap.size + 1 ≤ w1.heap.size := by have := hb1.size; simp at this; omega
  have hn : XAt w.heap.size 0 0 ⟨#[]⟩ ⟨#[]⟩ false (w1.alloc (.cells #[.int .i64 3, .int .i64 0, .string ⟨#[]⟩, .string ⟨#[]⟩, .bool true] 23)) := (Below.heap_alloc _ _ _ (by omega)).trans ((hb1.block _ (by simp)).trans HR0.out)
  have hx : XAt w1.heap.size 3 0 ⟨#[]⟩ ⟨#[]⟩ true (w1.alloc (.cells #[.int .i64 3, .int .i64 0, .string ⟨#[]⟩, .string ⟨#[]⟩, .bool true] 23)) := heap_alloc_new _ _
  have hb : Below w.heap.size w (w1.alloc (.cells #[.int .i64 3, .int .i64 0, .string ⟨#[]⟩, .string ⟨#[]⟩, .bool true] 23)) := (((Below.refl _ w).alloc (Nat.le_refl _) _).trans (hb1.mono (by simp))).alloc (by omega) _
  have HNE : Hid (w.heap.size ≠ w1.heap.size) := Lib.hid (by omega)
  have HG : Hid (g ≠ w1.heap.size) := Lib.hid (by omega)
  have HLE : Hid (w.heap.size ≤ w1.heap.size) := Lib.hid (by omega)
  have HN := Lib.hid hn; have HX := Lib.hid hx; have HB := Lib.hid hb
  have c0 := opc0 hn; have c1 := opc1 hn; have c2 := opc2 hn; have c3 := opc3 hn; have c4 := opc4 hn; have cf := opf hn
  clear hn hx hb hg1 hg2 hcl hb1 HR0 w1b
  have HU := Lib.hid hu; have HW := Lib.hid hw; clear hu hw
  go_wp2_with fail
  refine (runw_any a _ sa).mono ?_
  rintro e w2 ⟨rfl, hb2⟩
  rw [HU.out]
  have x2 : XAt w1.heap.size 3 0 ⟨#[]⟩ ⟨#[]⟩ true w2 := keepX hb2 HX.out
  have n2 : XAt w.heap.size 0 0 ⟨#[]⟩ ⟨#[]⟩ false w2 := keepX hb2 HN.out
  have b2 : Below w.heap.size w w2 := HB.out.trans (hb2.mono HB.out.size)
  have l3 := fun v => sets_cell w1.heap.size 2 v HG.out (keep_cell hb2 d2)
  have y20 := opc0 x2; have y21 := opc1 x2; have y22 := opc2 x2; have y23 := opc3 x2; have y24 := opc4 x2; have y2f := opf x2
  have X2 := Lib.hid (xset2 x2 (unwT a)); have N2 := Lib.hid (xoth HNE.out n2 2 (.string (unwT a))); have B2 := Lib.hid (b2.setCell (p := ⟨w1.heap.size, 2, none⟩) HLE.out (.string (unwT a)))
  clear hb2 x2 n2 b2
  go_wp2_with fail
  refine (runw_any b _ sb).mono ?_
  rintro e w3 ⟨rfl, hb3⟩
  rw [HW.out]
  have x3 : XAt w1.heap.size 3 0 (unwT a) ⟨#[]⟩ true w3 := keepX hb3 X2.out
  have n3 : XAt w.heap.size 0 0 ⟨#[]⟩ ⟨#[]⟩ false w3 := keepX hb3 N2.out
  have b3 : Below w.heap.size w w3 := B2.out.trans (hb3.mono B2.out.size)
  have y30 := opc0 x3; have y31 := opc1 x3; have y32 := opc2 x3; have y33 := opc3 x3; have y34 := opc4 x3; have y3f := opf x3
  have n30 := opc0 n3; have n31 := opc1 n3; have n32 := opc2 n3; have n33 := opc3 n3; have n34 := opc4 n3; have n3f := opf n3
  have b4 := b3.setCell (p := ⟨w1.heap.size, 3, none⟩) HLE.out (.string (unwT b))
  clear hb3 x3 n3
  have hne1 := HNE.out; have hne2 := HNE.out.symm
  go_wp2_with fail
  refine bodyPost_ret (v := refParseV s) ?_ rfl ⟨rfl, ?_⟩
  · rw [HV.out]
    simp [results, Tryd.results15, go_sem, n30, n31, n32, n33, n34, opZ]
  · exact (((((b4).setCell (Nat.le_refl _) _).setCell (Nat.le_refl _) _).setCell (Nat.le_refl _) _).setCell (Nat.le_refl _) _).setCell (Nat.le_refl _) _
set_option maxHeartbeats 600000 in
set_option maxRecDepth 100000 in
theorem rp_kKeep_falsetrue (s x : ByteArray) (a b : ByteArray) (w : World) (hs : s.size ≤ 1000) (hxr : words s = [x, a, b]) (hx : x = kKeep) (hu : unwO a = false) (hw : unwO b = true) (sa : a.size ≤ 100000) (sb : b.size ≤ 100000) :
    Calls Tryd.prog 15 #[.string s] w fun e w' => e = .returned (refParseV s) ∧ Below w.heap.size w w' := by
  have hv : refParseV s = .tuple #[opZ, .int .i64 10] := by
    unfold refParseV; rw [hxr, hx]
    have e1 : kindOK kKeep = true := by decide
    have e2 : kindK kKeep = 3 := by decide
    have e3 : kindKeep kKeep = true := by decide
    simp [e1, e2, refR, hu, hw]
  have q0 : (x.toList == ([115, 117, 98] : Bs)) = false := by rw [tl_eq]; exact decide_eq_false (by rw [hx]; decide)
  have q1 : (x.toList == ([117, 110, 115, 117, 98] : Bs)) = false := by rw [tl_eq]; exact decide_eq_false (by rw [hx]; decide)
  have q2 : (x.toList == ([112, 117, 98] : Bs)) = false := by rw [tl_eq]; exact decide_eq_false (by rw [hx]; decide)
  have q3 : (x.toList == ([107, 101, 101, 112] : Bs)) = true := by rw [tl_eq]; exact decide_eq_true hx
  have HV := Lib.hid hv
  have hsp : ∀ w, Calls Tryd.prog 40 #[.string s] w fun e w' => ∃ g c, e = .returned (.slice (some ⟨g, 0, none⟩) 3 c) ∧ w.heap.size ≤ g ∧ g < w'.heap.size ∧ (∀ j x, (words s)[j]? = some x → w'.cell? ⟨g, j, none⟩ = some (.string x)) ∧ Below w.heap.size w w' := by
    intro w; have h := rsplit_any s w (by omega); have e : (words s).length = 3 := by rw [hxr]; rfl
    rw [e] at h; exact h
  have HSP := Lib.hid hsp
  have HXR := Lib.hid hxr
  have rs0 : XAt w.heap.size 0 0 ⟨#[]⟩ ⟨#[]⟩ false (w.alloc (.cells #[.int .i64 0, .int .i64 0, .string ⟨#[]⟩, .string ⟨#[]⟩, .bool false] 23)) := heap_alloc_new _ _
  have HR0 := Lib.hid rs0
  clear hv hsp rs0 hxr hx
  go_enter Tryd.func15, Tryd.ntmps15
  go_wp2_with fail
  refine (HSP.out _).mono ?_
  rintro e w1 ⟨g, c, rfl, hg1, hg2, hcl, hb1⟩
  have d0 : ∀ o, (w1.alloc o).cell? ⟨g, 0, none⟩ = some (.string x) := (fun o => keep_cell ((Below.refl _ _).alloc (Nat.le_refl _) o) (hcl 0 x (by rw [HXR.out]; rfl)))
  have d1 : (w1.alloc (.cells #[.int .i64 3, .int .i64 0, .string ⟨#[]⟩, .string ⟨#[]⟩, .bool true] 23)).cell? ⟨g, 1, none⟩ = some (.string a) := keep_cell ((Below.refl _ _).alloc (Nat.le_refl _) _) (hcl 1 a (by rw [HXR.out]; rfl))
  have d2 : (w1.alloc (.cells #[.int .i64 3, .int .i64 0, .string ⟨#[]⟩, .string ⟨#[]⟩, .bool true] 23)).cell? ⟨g, 2, none⟩ = some (.string b) := keep_cell ((Below.refl _ _).alloc (Nat.le_refl _) _) (hcl 2 b (by rw [HXR.out]; rfl))
  have w1b : w.heap.size + 1 ≤ w1.heap.size := by have := hb1.size; simp at this; omega
  have hn : XAt w.heap.size 0 0 ⟨#[]⟩ ⟨#[]⟩ false (w1.alloc (.cells #[.int .i64 3, .int .i64 0, .string ⟨#[]⟩, .string ⟨#[]⟩, .bool true] 23)) := (Below.heap_alloc _ _ _ (by omega)).trans ((hb1.block _ (by simp)).trans HR0.out)
  have hx : XAt w1.heap.size 3 0 ⟨#[]⟩ ⟨#[]⟩ true (w1.alloc (.cells #[.int .i64 3, .int .i64 0, .string ⟨#[]⟩, .string ⟨#[]⟩, .bool true] 23)) := heap_alloc_new _ _
  have hb : Below w.heap.size w (w1.alloc (.cells #[.int .i64 3, .int .i64 0, .string ⟨#[]⟩, .string ⟨#[]⟩, .bool true] 23)) := (((Below.refl _ w).alloc (Nat.le_refl _) _).trans (hb1.mono (by simp))).alloc (by omega) _
  have HNE : Hid (w.heap.size ≠ w1.heap.size) := Lib.hid (by omega)
  have HG : Hid (g ≠ w1.heap.size) := Lib.hid (by omega)
  have HLE : Hid (w.heap.size ≤ w1.heap.size) := Lib.hid (by omega)
  have HN := Lib.hid hn; have HX := Lib.hid hx; have HB := Lib.hid hb
  have c0 := opc0 hn; have c1 := opc1 hn; have c2 := opc2 hn; have c3 := opc3 hn; have c4 := opc4 hn; have cf := opf hn
  clear hn hx hb hg1 hg2 hcl hb1 HR0 w1b
  have HU := Lib.hid hu; have HW := Lib.hid hw; clear hu hw
  go_wp2_with fail
  refine (runw_any a _ sa).mono ?_
  rintro e w2 ⟨rfl, hb2⟩
  rw [HU.out]
  have x2 : XAt w1.heap.size 3 0 ⟨#[]⟩ ⟨#[]⟩ true w2 := keepX hb2 HX.out
  have n2 : XAt w.heap.size 0 0 ⟨#[]⟩ ⟨#[]⟩ false w2 := keepX hb2 HN.out
  have b2 : Below w.heap.size w w2 := HB.out.trans (hb2.mono HB.out.size)
  have l3 := fun v => sets_cell w1.heap.size 2 v HG.out (keep_cell hb2 d2)
  have y20 := opc0 x2; have y21 := opc1 x2; have y22 := opc2 x2; have y23 := opc3 x2; have y24 := opc4 x2; have y2f := opf x2
  have X2 := Lib.hid (xset2 x2 (unwT a)); have N2 := Lib.hid (xoth HNE.out n2 2 (.string (unwT a))); have B2 := Lib.hid (b2.setCell (p := ⟨w1.heap.size, 2, none⟩) HLE.out (.string (unwT a)))
  clear hb2 x2 n2 b2
  go_wp2_with fail
  refine (runw_any b _ sb).mono ?_
  rintro e w3 ⟨rfl, hb3⟩
  rw [HW.out]
  have x3 : XAt w1.heap.size 3 0 (unwT a) ⟨#[]⟩ true w3 := keepX hb3 X2.out
  have n3 : XAt w.heap.size 0 0 ⟨#[]⟩ ⟨#[]⟩ false w3 := keepX hb3 N2.out
  have b3 : Below w.heap.size w w3 := B2.out.trans (hb3.mono B2.out.size)
  have y30 := opc0 x3; have y31 := opc1 x3; have y32 := opc2 x3; have y33 := opc3 x3; have y34 := opc4 x3; have y3f := opf x3
  have n30 := opc0 n3; have n31 := opc1 n3; have n32 := opc2 n3; have n33 := opc3 n3; have n34 := opc4 n3; have n3f := opf n3
  have b4 := b3.setCell (p := ⟨w1.heap.size, 3, none⟩) HLE.out (.string (unwT b))
  clear hb3 x3 n3
  have hne1 := HNE.out; have hne2 := HNE.out.symm
  go_wp2_with fail
  refine bodyPost_ret (v := refParseV s) ?_ rfl ⟨rfl, ?_⟩
  · rw [HV.out]
    simp [results, Tryd.results15, go_sem, n30, n31, n32, n33, n34, opZ]
  · exact (((((b4).setCell (Nat.le_refl _) _).setCell (Nat.le_refl _) _).setCell (Nat.le_refl _) _).setCell (Nat.le_refl _) _).setCell (Nat.le_refl _) _
set_option maxHeartbeats 600000 in
set_option maxRecDepth 100000 in
theorem rp_kKeep_falsefalse (s x : ByteArray) (a b : ByteArray) (w : World) (hs : s.size ≤ 1000) (hxr : words s = [x, a, b]) (hx : x = kKeep) (hu : unwO a = false) (hw : unwO b = false) (sa : a.size ≤ 100000) (sb : b.size ≤ 100000) :
    Calls Tryd.prog 15 #[.string s] w fun e w' => e = .returned (refParseV s) ∧ Below w.heap.size w w' := by
  have hv : refParseV s = .tuple #[opZ, .int .i64 10] := by
    unfold refParseV; rw [hxr, hx]
    have e1 : kindOK kKeep = true := by decide
    have e2 : kindK kKeep = 3 := by decide
    have e3 : kindKeep kKeep = true := by decide
    simp [e1, e2, refR, hu, hw]
  have q0 : (x.toList == ([115, 117, 98] : Bs)) = false := by rw [tl_eq]; exact decide_eq_false (by rw [hx]; decide)
  have q1 : (x.toList == ([117, 110, 115, 117, 98] : Bs)) = false := by rw [tl_eq]; exact decide_eq_false (by rw [hx]; decide)
  have q2 : (x.toList == ([112, 117, 98] : Bs)) = false := by rw [tl_eq]; exact decide_eq_false (by rw [hx]; decide)
  have q3 : (x.toList == ([107, 101, 101, 112] : Bs)) = true := by rw [tl_eq]; exact decide_eq_true hx
  have HV := Lib.hid hv
  have hsp : ∀ w, Calls Tryd.prog 40 #[.string s] w fun e w' => ∃ g c, e = .returned (.slice (some ⟨g, 0, none⟩) 3 c) ∧ w.heap.size ≤ g ∧ g < w'.heap.size ∧ (∀ j x, (words s)[j]? = some x → w'.cell? ⟨g, j, none⟩ = some (.string x)) ∧ Below w.heap.size w w' := by
    intro w; have h := rsplit_any s w (by omega); have e : (words s).length = 3 := by rw [hxr]; rfl
    rw [e] at h; exact h
  have HSP := Lib.hid hsp
  have HXR := Lib.hid hxr
  have rs0 : XAt w.heap.size 0 0 ⟨#[]⟩ ⟨#[]⟩ false (w.alloc (.cells #[.int .i64 0, .int .i64 0, .string ⟨#[]⟩, .string ⟨#[]⟩, .bool false] 23)) := heap_alloc_new _ _
  have HR0 := Lib.hid rs0
  clear hv hsp rs0 hxr hx
  go_enter Tryd.func15, Tryd.ntmps15
  go_wp2_with fail
  refine (HSP.out _).mono ?_
  rintro e w1 ⟨g, c, rfl, hg1, hg2, hcl, hb1⟩
  have d0 : ∀ o, (w1.alloc o).cell? ⟨g, 0, none⟩ = some (.string x) := (fun o => keep_cell ((Below.refl _ _).alloc (Nat.le_refl _) o) (hcl 0 x (by rw [HXR.out]; rfl)))
  have d1 : (w1.alloc (.cells #[.int .i64 3, .int .i64 0, .string ⟨#[]⟩, .string ⟨#[]⟩, .bool true] 23)).cell? ⟨g, 1, none⟩ = some (.string a) := keep_cell ((Below.refl _ _).alloc (Nat.le_refl _) _) (hcl 1 a (by rw [HXR.out]; rfl))
  have d2 : (w1.alloc (.cells #[.int .i64 3, .int .i64 0, .string ⟨#[]⟩, .string ⟨#[]⟩, .bool true] 23)).cell? ⟨g, 2, none⟩ = some (.string b) := keep_cell ((Below.refl _ _).alloc (Nat.le_refl _) _) (hcl 2 b (by rw [HXR.out]; rfl))
  have w1b : w.heap.size + 1 ≤ w1.heap.size := by have := hb1.size; simp at this; omega
  have hn : XAt w.heap.size 0 0 ⟨#[]⟩ ⟨#[]⟩ false (w1.alloc (.cells #[.int .i64 3, .int .i64 0, .string ⟨#[]⟩, .string ⟨#[]⟩, .bool true] 23)) := (Below.heap_alloc _ _ _ (by omega)).trans ((hb1.block _ (by simp)).trans HR0.out)
  have hx : XAt w1.heap.size 3 0 ⟨#[]⟩ ⟨#[]⟩ true (w1.alloc (.cells #[.int .i64 3, .int .i64 0, .string ⟨#[]⟩, .string ⟨#[]⟩, .bool true] 23)) := heap_alloc_new _ _
  have hb : Below w.heap.size w (w1.alloc (.cells #[.int .i64 3, .int .i64 0, .string ⟨#[]⟩, .string ⟨#[]⟩, .bool true] 23)) := (((Below.refl _ w).alloc (Nat.le_refl _) _).trans (hb1.mono (by simp))).alloc (by omega) _
  have HNE : Hid (w.heap.size ≠ w1.heap.size) := Lib.hid (by omega)
  have HG : Hid (g ≠ w1.heap.size) := Lib.hid (by omega)
  have HLE : Hid (w.heap.size ≤ w1.heap.size) := Lib.hid (by omega)
  have HN := Lib.hid hn; have HX := Lib.hid hx; have HB := Lib.hid hb
  have c0 := opc0 hn; have c1 := opc1 hn; have c2 := opc2 hn; have c3 := opc3 hn; have c4 := opc4 hn; have cf := opf hn
  clear hn hx hb hg1 hg2 hcl hb1 HR0 w1b
  have HU := Lib.hid hu; have HW := Lib.hid hw; clear hu hw
  go_wp2_with fail
  refine (runw_any a _ sa).mono ?_
  rintro e w2 ⟨rfl, hb2⟩
  rw [HU.out]
  have x2 : XAt w1.heap.size 3 0 ⟨#[]⟩ ⟨#[]⟩ true w2 := keepX hb2 HX.out
  have n2 : XAt w.heap.size 0 0 ⟨#[]⟩ ⟨#[]⟩ false w2 := keepX hb2 HN.out
  have b2 : Below w.heap.size w w2 := HB.out.trans (hb2.mono HB.out.size)
  have l3 := fun v => sets_cell w1.heap.size 2 v HG.out (keep_cell hb2 d2)
  have y20 := opc0 x2; have y21 := opc1 x2; have y22 := opc2 x2; have y23 := opc3 x2; have y24 := opc4 x2; have y2f := opf x2
  have X2 := Lib.hid (xset2 x2 (unwT a)); have N2 := Lib.hid (xoth HNE.out n2 2 (.string (unwT a))); have B2 := Lib.hid (b2.setCell (p := ⟨w1.heap.size, 2, none⟩) HLE.out (.string (unwT a)))
  clear hb2 x2 n2 b2
  go_wp2_with fail
  refine (runw_any b _ sb).mono ?_
  rintro e w3 ⟨rfl, hb3⟩
  rw [HW.out]
  have x3 : XAt w1.heap.size 3 0 (unwT a) ⟨#[]⟩ true w3 := keepX hb3 X2.out
  have n3 : XAt w.heap.size 0 0 ⟨#[]⟩ ⟨#[]⟩ false w3 := keepX hb3 N2.out
  have b3 : Below w.heap.size w w3 := B2.out.trans (hb3.mono B2.out.size)
  have y30 := opc0 x3; have y31 := opc1 x3; have y32 := opc2 x3; have y33 := opc3 x3; have y34 := opc4 x3; have y3f := opf x3
  have n30 := opc0 n3; have n31 := opc1 n3; have n32 := opc2 n3; have n33 := opc3 n3; have n34 := opc4 n3; have n3f := opf n3
  have b4 := b3.setCell (p := ⟨w1.heap.size, 3, none⟩) HLE.out (.string (unwT b))
  clear hb3 x3 n3
  have hne1 := HNE.out; have hne2 := HNE.out.symm
  go_wp2_with fail
  refine bodyPost_ret (v := refParseV s) ?_ rfl ⟨rfl, ?_⟩
  · rw [HV.out]
    simp [results, Tryd.results15, go_sem, n30, n31, n32, n33, n34, opZ]
  · exact (((((b4).setCell (Nat.le_refl _) _).setCell (Nat.le_refl _) _).setCell (Nat.le_refl _) _).setCell (Nat.le_refl _) _).setCell (Nat.le_refl _) _
set_option maxHeartbeats 600000 in
set_option maxRecDepth 100000 in
theorem rp_kPoll_true (s x : ByteArray) (a : ByteArray) (w : World) (hs : s.size ≤ 1000) (hxr : words s = [x, a]) (hx : x = kPoll) (hu : decide (0 ≤ numS a.data.toList) = true) :
    Calls Tryd.prog 15 #[.string s] w fun e w' => e = .returned (refParseV s) ∧ Below w.heap.size w w' := by
  have hv : refParseV s = .tuple #[.agg #[.int .i64 4, .int .i64 (numS a.data.toList), .string ⟨#[]⟩, .string ⟨#[]⟩, .bool false], .int .i64 0] := by
    unfold refParseV; rw [hxr, hx]
    have e1 : kindOK kPoll = true := by decide
    have e2 : kindK kPoll = 4 := by decide
    have e3 : kindKeep kPoll = false := by decide
    have hu' := of_decide_eq_true hu
    have e4 : refR 4 [a] = some (numS a.data.toList, ⟨#[]⟩, ⟨#[]⟩) := by unfold refR; simp only [show ((4 : Int) = 3) = False from by simp, show ((4 : Int) < 3) = False from by simp, if_false]; rw [if_pos hu']
    simp only [e1, e2, e3, e4, Bool.true_eq_false, if_false]
  have q0 : (x.toList == ([115, 117, 98] : Bs)) = false := by rw [tl_eq]; exact decide_eq_false (by rw [hx]; decide)
  have q1 : (x.toList == ([117, 110, 115, 117, 98] : Bs)) = false := by rw [tl_eq]; exact decide_eq_false (by rw [hx]; decide)
  have q2 : (x.toList == ([112, 117, 98] : Bs)) = false := by rw [tl_eq]; exact decide_eq_false (by rw [hx]; decide)
  have q3 : (x.toList == ([107, 101, 101, 112] : Bs)) = false := by rw [tl_eq]; exact decide_eq_false (by rw [hx]; decide)
  have q4 : (x.toList == ([112, 111, 108, 108] : Bs)) = true := by rw [tl_eq]; exact decide_eq_true hx
  have HV := Lib.hid hv
  have hsp : ∀ w, Calls Tryd.prog 40 #[.string s] w fun e w' => ∃ g c, e = .returned (.slice (some ⟨g, 0, none⟩) 2 c) ∧ w.heap.size ≤ g ∧ g < w'.heap.size ∧ (∀ j x, (words s)[j]? = some x → w'.cell? ⟨g, j, none⟩ = some (.string x)) ∧ Below w.heap.size w w' := by
    intro w; have h := rsplit_any s w (by omega); have e : (words s).length = 2 := by rw [hxr]; rfl
    rw [e] at h; exact h
  have HSP := Lib.hid hsp
  have HXR := Lib.hid hxr
  have rs0 : XAt w.heap.size 0 0 ⟨#[]⟩ ⟨#[]⟩ false (w.alloc (.cells #[.int .i64 0, .int .i64 0, .string ⟨#[]⟩, .string ⟨#[]⟩, .bool false] 23)) := heap_alloc_new _ _
  have HR0 := Lib.hid rs0
  clear hv hsp rs0 hxr hx
  go_enter Tryd.func15, Tryd.ntmps15
  go_wp2_with fail
  refine (HSP.out _).mono ?_
  rintro e w1 ⟨g, c, rfl, hg1, hg2, hcl, hb1⟩
  have d0 : ∀ o, (w1.alloc o).cell? ⟨g, 0, none⟩ = some (.string x) := (fun o => keep_cell ((Below.refl _ _).alloc (Nat.le_refl _) o) (hcl 0 x (by rw [HXR.out]; rfl)))
  have d1 : (w1.alloc (.cells #[.int .i64 4, .int .i64 0, .string ⟨#[]⟩, .string ⟨#[]⟩, .bool false] 23)).cell? ⟨g, 1, none⟩ = some (.string a) := keep_cell ((Below.refl _ _).alloc (Nat.le_refl _) _) (hcl 1 a (by rw [HXR.out]; rfl))
  have w1b : w.heap.size + 1 ≤ w1.heap.size := by have := hb1.size; simp at this; omega
  have hn : XAt w.heap.size 0 0 ⟨#[]⟩ ⟨#[]⟩ false (w1.alloc (.cells #[.int .i64 4, .int .i64 0, .string ⟨#[]⟩, .string ⟨#[]⟩, .bool false] 23)) := (Below.heap_alloc _ _ _ (by omega)).trans ((hb1.block _ (by simp)).trans HR0.out)
  have hx : XAt w1.heap.size 4 0 ⟨#[]⟩ ⟨#[]⟩ false (w1.alloc (.cells #[.int .i64 4, .int .i64 0, .string ⟨#[]⟩, .string ⟨#[]⟩, .bool false] 23)) := heap_alloc_new _ _
  have hb : Below w.heap.size w (w1.alloc (.cells #[.int .i64 4, .int .i64 0, .string ⟨#[]⟩, .string ⟨#[]⟩, .bool false] 23)) := (((Below.refl _ w).alloc (Nat.le_refl _) _).trans (hb1.mono (by simp))).alloc (by omega) _
  have HNE : Hid (w.heap.size ≠ w1.heap.size) := Lib.hid (by omega)
  have HG : Hid (g ≠ w1.heap.size) := Lib.hid (by omega)
  have HLE : Hid (w.heap.size ≤ w1.heap.size) := Lib.hid (by omega)
  have HN := Lib.hid hn; have HX := Lib.hid hx; have HB := Lib.hid hb
  have c0 := opc0 hn; have c1 := opc1 hn; have c2 := opc2 hn; have c3 := opc3 hn; have c4 := opc4 hn; have cf := opf hn
  clear hn hx hb hg1 hg2 hcl hb1 HR0 w1b
  go_wp2_with fail
  refine (rnum_any a _).mono ?_
  rintro e w2 ⟨rfl, hb2⟩
  have x2 : XAt w1.heap.size 4 0 ⟨#[]⟩ ⟨#[]⟩ false w2 := keepX hb2 HX.out
  have n2 : XAt w.heap.size 0 0 ⟨#[]⟩ ⟨#[]⟩ false w2 := keepX hb2 HN.out
  have b2 : Below w.heap.size w w2 := HB.out.trans (hb2.mono HB.out.size)
  generalize numS a.data.toList = v at *
  have y20 := opc0 x2; have y21 := opc1 x2; have y22 := opc2 x2; have y23 := opc3 x2; have y24 := opc4 x2; have y2f := opf x2
  have n20 := opc0 n2; have n21 := opc1 n2; have n22 := opc2 n2; have n23 := opc3 n2; have n24 := opc4 n2; have n2f := opf n2
  have b4 := b2.setCell (p := ⟨w1.heap.size, 1, none⟩) HLE.out (.int .i64 v)
  clear hb2 x2 n2
  have hne1 := HNE.out; have hne2 := HNE.out.symm
  go_wp2_with fail
  refine bodyPost_ret (v := refParseV s) ?_ rfl ⟨rfl, ?_⟩
  · rw [HV.out]
    simp [results, Tryd.results15, go_sem, n20, n21, n22, n23, n24]
  · exact (((((b4).setCell (Nat.le_refl _) _).setCell (Nat.le_refl _) _).setCell (Nat.le_refl _) _).setCell (Nat.le_refl _) _).setCell (Nat.le_refl _) _
set_option maxHeartbeats 600000 in
set_option maxRecDepth 100000 in
theorem rp_kPoll_false (s x : ByteArray) (a : ByteArray) (w : World) (hs : s.size ≤ 1000) (hxr : words s = [x, a]) (hx : x = kPoll) (hu : decide (0 ≤ numS a.data.toList) = false) :
    Calls Tryd.prog 15 #[.string s] w fun e w' => e = .returned (refParseV s) ∧ Below w.heap.size w w' := by
  have hv : refParseV s = .tuple #[opZ, .int .i64 10] := by
    unfold refParseV; rw [hxr, hx]
    have e1 : kindOK kPoll = true := by decide
    have e2 : kindK kPoll = 4 := by decide
    have e3 : kindKeep kPoll = false := by decide
    have hu' := of_decide_eq_false hu
    have e4 : refR 4 [a] = none := by unfold refR; simp only [show ((4 : Int) = 3) = False from by simp, show ((4 : Int) < 3) = False from by simp, if_false]; rw [if_neg hu']
    simp only [e1, e2, e4, Bool.true_eq_false, if_false]
  have q0 : (x.toList == ([115, 117, 98] : Bs)) = false := by rw [tl_eq]; exact decide_eq_false (by rw [hx]; decide)
  have q1 : (x.toList == ([117, 110, 115, 117, 98] : Bs)) = false := by rw [tl_eq]; exact decide_eq_false (by rw [hx]; decide)
  have q2 : (x.toList == ([112, 117, 98] : Bs)) = false := by rw [tl_eq]; exact decide_eq_false (by rw [hx]; decide)
  have q3 : (x.toList == ([107, 101, 101, 112] : Bs)) = false := by rw [tl_eq]; exact decide_eq_false (by rw [hx]; decide)
  have q4 : (x.toList == ([112, 111, 108, 108] : Bs)) = true := by rw [tl_eq]; exact decide_eq_true hx
  have HV := Lib.hid hv
  have hsp : ∀ w, Calls Tryd.prog 40 #[.string s] w fun e w' => ∃ g c, e = .returned (.slice (some ⟨g, 0, none⟩) 2 c) ∧ w.heap.size ≤ g ∧ g < w'.heap.size ∧ (∀ j x, (words s)[j]? = some x → w'.cell? ⟨g, j, none⟩ = some (.string x)) ∧ Below w.heap.size w w' := by
    intro w; have h := rsplit_any s w (by omega); have e : (words s).length = 2 := by rw [hxr]; rfl
    rw [e] at h; exact h
  have HSP := Lib.hid hsp
  have HXR := Lib.hid hxr
  have rs0 : XAt w.heap.size 0 0 ⟨#[]⟩ ⟨#[]⟩ false (w.alloc (.cells #[.int .i64 0, .int .i64 0, .string ⟨#[]⟩, .string ⟨#[]⟩, .bool false] 23)) := heap_alloc_new _ _
  have HR0 := Lib.hid rs0
  clear hv hsp rs0 hxr hx
  go_enter Tryd.func15, Tryd.ntmps15
  go_wp2_with fail
  refine (HSP.out _).mono ?_
  rintro e w1 ⟨g, c, rfl, hg1, hg2, hcl, hb1⟩
  have d0 : ∀ o, (w1.alloc o).cell? ⟨g, 0, none⟩ = some (.string x) := (fun o => keep_cell ((Below.refl _ _).alloc (Nat.le_refl _) o) (hcl 0 x (by rw [HXR.out]; rfl)))
  have d1 : (w1.alloc (.cells #[.int .i64 4, .int .i64 0, .string ⟨#[]⟩, .string ⟨#[]⟩, .bool false] 23)).cell? ⟨g, 1, none⟩ = some (.string a) := keep_cell ((Below.refl _ _).alloc (Nat.le_refl _) _) (hcl 1 a (by rw [HXR.out]; rfl))
  have w1b : w.heap.size + 1 ≤ w1.heap.size := by have := hb1.size; simp at this; omega
  have hn : XAt w.heap.size 0 0 ⟨#[]⟩ ⟨#[]⟩ false (w1.alloc (.cells #[.int .i64 4, .int .i64 0, .string ⟨#[]⟩, .string ⟨#[]⟩, .bool false] 23)) := (Below.heap_alloc _ _ _ (by omega)).trans ((hb1.block _ (by simp)).trans HR0.out)
  have hx : XAt w1.heap.size 4 0 ⟨#[]⟩ ⟨#[]⟩ false (w1.alloc (.cells #[.int .i64 4, .int .i64 0, .string ⟨#[]⟩, .string ⟨#[]⟩, .bool false] 23)) := heap_alloc_new _ _
  have hb : Below w.heap.size w (w1.alloc (.cells #[.int .i64 4, .int .i64 0, .string ⟨#[]⟩, .string ⟨#[]⟩, .bool false] 23)) := (((Below.refl _ w).alloc (Nat.le_refl _) _).trans (hb1.mono (by simp))).alloc (by omega) _
  have HNE : Hid (w.heap.size ≠ w1.heap.size) := Lib.hid (by omega)
  have HG : Hid (g ≠ w1.heap.size) := Lib.hid (by omega)
  have HLE : Hid (w.heap.size ≤ w1.heap.size) := Lib.hid (by omega)
  have HN := Lib.hid hn; have HX := Lib.hid hx; have HB := Lib.hid hb
  have c0 := opc0 hn; have c1 := opc1 hn; have c2 := opc2 hn; have c3 := opc3 hn; have c4 := opc4 hn; have cf := opf hn
  clear hn hx hb hg1 hg2 hcl hb1 HR0 w1b
  go_wp2_with fail
  refine (rnum_any a _).mono ?_
  rintro e w2 ⟨rfl, hb2⟩
  have x2 : XAt w1.heap.size 4 0 ⟨#[]⟩ ⟨#[]⟩ false w2 := keepX hb2 HX.out
  have n2 : XAt w.heap.size 0 0 ⟨#[]⟩ ⟨#[]⟩ false w2 := keepX hb2 HN.out
  have b2 : Below w.heap.size w w2 := HB.out.trans (hb2.mono HB.out.size)
  generalize numS a.data.toList = v at *
  have y20 := opc0 x2; have y21 := opc1 x2; have y22 := opc2 x2; have y23 := opc3 x2; have y24 := opc4 x2; have y2f := opf x2
  have n20 := opc0 n2; have n21 := opc1 n2; have n22 := opc2 n2; have n23 := opc3 n2; have n24 := opc4 n2; have n2f := opf n2
  have b4 := b2.setCell (p := ⟨w1.heap.size, 1, none⟩) HLE.out (.int .i64 v)
  clear hb2 x2 n2
  have hne1 := HNE.out; have hne2 := HNE.out.symm
  go_wp2_with fail
  refine bodyPost_ret (v := refParseV s) ?_ rfl ⟨rfl, ?_⟩
  · rw [HV.out]
    simp [results, Tryd.results15, go_sem, n20, n21, n22, n23, n24, opZ]
  · exact (((((b4).setCell (Nat.le_refl _) _).setCell (Nat.le_refl _) _).setCell (Nat.le_refl _) _).setCell (Nat.le_refl _) _).setCell (Nat.le_refl _) _
set_option maxHeartbeats 600000 in
set_option maxRecDepth 100000 in
theorem rp_kDrops_true (s x : ByteArray) (a : ByteArray) (w : World) (hs : s.size ≤ 1000) (hxr : words s = [x, a]) (hx : x = kDrops) (hu : decide (0 ≤ numS a.data.toList) = true) :
    Calls Tryd.prog 15 #[.string s] w fun e w' => e = .returned (refParseV s) ∧ Below w.heap.size w w' := by
  have hv : refParseV s = .tuple #[.agg #[.int .i64 5, .int .i64 (numS a.data.toList), .string ⟨#[]⟩, .string ⟨#[]⟩, .bool false], .int .i64 0] := by
    unfold refParseV; rw [hxr, hx]
    have e1 : kindOK kDrops = true := by decide
    have e2 : kindK kDrops = 5 := by decide
    have e3 : kindKeep kDrops = false := by decide
    have hu' := of_decide_eq_true hu
    have e4 : refR 5 [a] = some (numS a.data.toList, ⟨#[]⟩, ⟨#[]⟩) := by unfold refR; simp only [show ((5 : Int) = 3) = False from by simp, show ((5 : Int) < 3) = False from by simp, if_false]; rw [if_pos hu']
    simp only [e1, e2, e3, e4, Bool.true_eq_false, if_false]
  have q0 : (x.toList == ([115, 117, 98] : Bs)) = false := by rw [tl_eq]; exact decide_eq_false (by rw [hx]; decide)
  have q1 : (x.toList == ([117, 110, 115, 117, 98] : Bs)) = false := by rw [tl_eq]; exact decide_eq_false (by rw [hx]; decide)
  have q2 : (x.toList == ([112, 117, 98] : Bs)) = false := by rw [tl_eq]; exact decide_eq_false (by rw [hx]; decide)
  have q3 : (x.toList == ([107, 101, 101, 112] : Bs)) = false := by rw [tl_eq]; exact decide_eq_false (by rw [hx]; decide)
  have q4 : (x.toList == ([112, 111, 108, 108] : Bs)) = false := by rw [tl_eq]; exact decide_eq_false (by rw [hx]; decide)
  have q5 : (x.toList == ([100, 114, 111, 112, 115] : Bs)) = true := by rw [tl_eq]; exact decide_eq_true hx
  have HV := Lib.hid hv
  have hsp : ∀ w, Calls Tryd.prog 40 #[.string s] w fun e w' => ∃ g c, e = .returned (.slice (some ⟨g, 0, none⟩) 2 c) ∧ w.heap.size ≤ g ∧ g < w'.heap.size ∧ (∀ j x, (words s)[j]? = some x → w'.cell? ⟨g, j, none⟩ = some (.string x)) ∧ Below w.heap.size w w' := by
    intro w; have h := rsplit_any s w (by omega); have e : (words s).length = 2 := by rw [hxr]; rfl
    rw [e] at h; exact h
  have HSP := Lib.hid hsp
  have HXR := Lib.hid hxr
  have rs0 : XAt w.heap.size 0 0 ⟨#[]⟩ ⟨#[]⟩ false (w.alloc (.cells #[.int .i64 0, .int .i64 0, .string ⟨#[]⟩, .string ⟨#[]⟩, .bool false] 23)) := heap_alloc_new _ _
  have HR0 := Lib.hid rs0
  clear hv hsp rs0 hxr hx
  go_enter Tryd.func15, Tryd.ntmps15
  go_wp2_with fail
  refine (HSP.out _).mono ?_
  rintro e w1 ⟨g, c, rfl, hg1, hg2, hcl, hb1⟩
  have d0 : ∀ o, (w1.alloc o).cell? ⟨g, 0, none⟩ = some (.string x) := (fun o => keep_cell ((Below.refl _ _).alloc (Nat.le_refl _) o) (hcl 0 x (by rw [HXR.out]; rfl)))
  have d1 : (w1.alloc (.cells #[.int .i64 5, .int .i64 0, .string ⟨#[]⟩, .string ⟨#[]⟩, .bool false] 23)).cell? ⟨g, 1, none⟩ = some (.string a) := keep_cell ((Below.refl _ _).alloc (Nat.le_refl _) _) (hcl 1 a (by rw [HXR.out]; rfl))
  have w1b : w.heap.size + 1 ≤ w1.heap.size := by have := hb1.size; simp at this; omega
  have hn : XAt w.heap.size 0 0 ⟨#[]⟩ ⟨#[]⟩ false (w1.alloc (.cells #[.int .i64 5, .int .i64 0, .string ⟨#[]⟩, .string ⟨#[]⟩, .bool false] 23)) := (Below.heap_alloc _ _ _ (by omega)).trans ((hb1.block _ (by simp)).trans HR0.out)
  have hx : XAt w1.heap.size 5 0 ⟨#[]⟩ ⟨#[]⟩ false (w1.alloc (.cells #[.int .i64 5, .int .i64 0, .string ⟨#[]⟩, .string ⟨#[]⟩, .bool false] 23)) := heap_alloc_new _ _
  have hb : Below w.heap.size w (w1.alloc (.cells #[.int .i64 5, .int .i64 0, .string ⟨#[]⟩, .string ⟨#[]⟩, .bool false] 23)) := (((Below.refl _ w).alloc (Nat.le_refl _) _).trans (hb1.mono (by simp))).alloc (by omega) _
  have HNE : Hid (w.heap.size ≠ w1.heap.size) := Lib.hid (by omega)
  have HG : Hid (g ≠ w1.heap.size) := Lib.hid (by omega)
  have HLE : Hid (w.heap.size ≤ w1.heap.size) := Lib.hid (by omega)
  have HN := Lib.hid hn; have HX := Lib.hid hx; have HB := Lib.hid hb
  have c0 := opc0 hn; have c1 := opc1 hn; have c2 := opc2 hn; have c3 := opc3 hn; have c4 := opc4 hn; have cf := opf hn
  clear hn hx hb hg1 hg2 hcl hb1 HR0 w1b
  go_wp2_with fail
  refine (rnum_any a _).mono ?_
  rintro e w2 ⟨rfl, hb2⟩
  have x2 : XAt w1.heap.size 5 0 ⟨#[]⟩ ⟨#[]⟩ false w2 := keepX hb2 HX.out
  have n2 : XAt w.heap.size 0 0 ⟨#[]⟩ ⟨#[]⟩ false w2 := keepX hb2 HN.out
  have b2 : Below w.heap.size w w2 := HB.out.trans (hb2.mono HB.out.size)
  generalize numS a.data.toList = v at *
  have y20 := opc0 x2; have y21 := opc1 x2; have y22 := opc2 x2; have y23 := opc3 x2; have y24 := opc4 x2; have y2f := opf x2
  have n20 := opc0 n2; have n21 := opc1 n2; have n22 := opc2 n2; have n23 := opc3 n2; have n24 := opc4 n2; have n2f := opf n2
  have b4 := b2.setCell (p := ⟨w1.heap.size, 1, none⟩) HLE.out (.int .i64 v)
  clear hb2 x2 n2
  have hne1 := HNE.out; have hne2 := HNE.out.symm
  go_wp2_with fail
  refine bodyPost_ret (v := refParseV s) ?_ rfl ⟨rfl, ?_⟩
  · rw [HV.out]
    simp [results, Tryd.results15, go_sem, n20, n21, n22, n23, n24]
  · exact (((((b4).setCell (Nat.le_refl _) _).setCell (Nat.le_refl _) _).setCell (Nat.le_refl _) _).setCell (Nat.le_refl _) _).setCell (Nat.le_refl _) _
set_option maxHeartbeats 600000 in
set_option maxRecDepth 100000 in
theorem rp_kDrops_false (s x : ByteArray) (a : ByteArray) (w : World) (hs : s.size ≤ 1000) (hxr : words s = [x, a]) (hx : x = kDrops) (hu : decide (0 ≤ numS a.data.toList) = false) :
    Calls Tryd.prog 15 #[.string s] w fun e w' => e = .returned (refParseV s) ∧ Below w.heap.size w w' := by
  have hv : refParseV s = .tuple #[opZ, .int .i64 10] := by
    unfold refParseV; rw [hxr, hx]
    have e1 : kindOK kDrops = true := by decide
    have e2 : kindK kDrops = 5 := by decide
    have e3 : kindKeep kDrops = false := by decide
    have hu' := of_decide_eq_false hu
    have e4 : refR 5 [a] = none := by unfold refR; simp only [show ((5 : Int) = 3) = False from by simp, show ((5 : Int) < 3) = False from by simp, if_false]; rw [if_neg hu']
    simp only [e1, e2, e4, Bool.true_eq_false, if_false]
  have q0 : (x.toList == ([115, 117, 98] : Bs)) = false := by rw [tl_eq]; exact decide_eq_false (by rw [hx]; decide)
  have q1 : (x.toList == ([117, 110, 115, 117, 98] : Bs)) = false := by rw [tl_eq]; exact decide_eq_false (by rw [hx]; decide)
  have q2 : (x.toList == ([112, 117, 98] : Bs)) = false := by rw [tl_eq]; exact decide_eq_false (by rw [hx]; decide)
  have q3 : (x.toList == ([107, 101, 101, 112] : Bs)) = false := by rw [tl_eq]; exact decide_eq_false (by rw [hx]; decide)
  have q4 : (x.toList == ([112, 111, 108, 108] : Bs)) = false := by rw [tl_eq]; exact decide_eq_false (by rw [hx]; decide)
  have q5 : (x.toList == ([100, 114, 111, 112, 115] : Bs)) = true := by rw [tl_eq]; exact decide_eq_true hx
  have HV := Lib.hid hv
  have hsp : ∀ w, Calls Tryd.prog 40 #[.string s] w fun e w' => ∃ g c, e = .returned (.slice (some ⟨g, 0, none⟩) 2 c) ∧ w.heap.size ≤ g ∧ g < w'.heap.size ∧ (∀ j x, (words s)[j]? = some x → w'.cell? ⟨g, j, none⟩ = some (.string x)) ∧ Below w.heap.size w w' := by
    intro w; have h := rsplit_any s w (by omega); have e : (words s).length = 2 := by rw [hxr]; rfl
    rw [e] at h; exact h
  have HSP := Lib.hid hsp
  have HXR := Lib.hid hxr
  have rs0 : XAt w.heap.size 0 0 ⟨#[]⟩ ⟨#[]⟩ false (w.alloc (.cells #[.int .i64 0, .int .i64 0, .string ⟨#[]⟩, .string ⟨#[]⟩, .bool false] 23)) := heap_alloc_new _ _
  have HR0 := Lib.hid rs0
  clear hv hsp rs0 hxr hx
  go_enter Tryd.func15, Tryd.ntmps15
  go_wp2_with fail
  refine (HSP.out _).mono ?_
  rintro e w1 ⟨g, c, rfl, hg1, hg2, hcl, hb1⟩
  have d0 : ∀ o, (w1.alloc o).cell? ⟨g, 0, none⟩ = some (.string x) := (fun o => keep_cell ((Below.refl _ _).alloc (Nat.le_refl _) o) (hcl 0 x (by rw [HXR.out]; rfl)))
  have d1 : (w1.alloc (.cells #[.int .i64 5, .int .i64 0, .string ⟨#[]⟩, .string ⟨#[]⟩, .bool false] 23)).cell? ⟨g, 1, none⟩ = some (.string a) := keep_cell ((Below.refl _ _).alloc (Nat.le_refl _) _) (hcl 1 a (by rw [HXR.out]; rfl))
  have w1b : w.heap.size + 1 ≤ w1.heap.size := by have := hb1.size; simp at this; omega
  have hn : XAt w.heap.size 0 0 ⟨#[]⟩ ⟨#[]⟩ false (w1.alloc (.cells #[.int .i64 5, .int .i64 0, .string ⟨#[]⟩, .string ⟨#[]⟩, .bool false] 23)) := (Below.heap_alloc _ _ _ (by omega)).trans ((hb1.block _ (by simp)).trans HR0.out)
  have hx : XAt w1.heap.size 5 0 ⟨#[]⟩ ⟨#[]⟩ false (w1.alloc (.cells #[.int .i64 5, .int .i64 0, .string ⟨#[]⟩, .string ⟨#[]⟩, .bool false] 23)) := heap_alloc_new _ _
  have hb : Below w.heap.size w (w1.alloc (.cells #[.int .i64 5, .int .i64 0, .string ⟨#[]⟩, .string ⟨#[]⟩, .bool false] 23)) := (((Below.refl _ w).alloc (Nat.le_refl _) _).trans (hb1.mono (by simp))).alloc (by omega) _
  have HNE : Hid (w.heap.size ≠ w1.heap.size) := Lib.hid (by omega)
  have HG : Hid (g ≠ w1.heap.size) := Lib.hid (by omega)
  have HLE : Hid (w.heap.size ≤ w1.heap.size) := Lib.hid (by omega)
  have HN := Lib.hid hn; have HX := Lib.hid hx; have HB := Lib.hid hb
  have c0 := opc0 hn; have c1 := opc1 hn; have c2 := opc2 hn; have c3 := opc3 hn; have c4 := opc4 hn; have cf := opf hn
  clear hn hx hb hg1 hg2 hcl hb1 HR0 w1b
  go_wp2_with fail
  refine (rnum_any a _).mono ?_
  rintro e w2 ⟨rfl, hb2⟩
  have x2 : XAt w1.heap.size 5 0 ⟨#[]⟩ ⟨#[]⟩ false w2 := keepX hb2 HX.out
  have n2 : XAt w.heap.size 0 0 ⟨#[]⟩ ⟨#[]⟩ false w2 := keepX hb2 HN.out
  have b2 : Below w.heap.size w w2 := HB.out.trans (hb2.mono HB.out.size)
  generalize numS a.data.toList = v at *
  have y20 := opc0 x2; have y21 := opc1 x2; have y22 := opc2 x2; have y23 := opc3 x2; have y24 := opc4 x2; have y2f := opf x2
  have n20 := opc0 n2; have n21 := opc1 n2; have n22 := opc2 n2; have n23 := opc3 n2; have n24 := opc4 n2; have n2f := opf n2
  have b4 := b2.setCell (p := ⟨w1.heap.size, 1, none⟩) HLE.out (.int .i64 v)
  clear hb2 x2 n2
  have hne1 := HNE.out; have hne2 := HNE.out.symm
  go_wp2_with fail
  refine bodyPost_ret (v := refParseV s) ?_ rfl ⟨rfl, ?_⟩
  · rw [HV.out]
    simp [results, Tryd.results15, go_sem, n20, n21, n22, n23, n24, opZ]
  · exact (((((b4).setCell (Nat.le_refl _) _).setCell (Nat.le_refl _) _).setCell (Nat.le_refl _) _).setCell (Nat.le_refl _) _).setCell (Nat.le_refl _) _
end Go.Proofs.YtodiohoiekkodaaDoor.Op
end

section
set_option linter.unusedVariables false
namespace Go.Proofs.YtodiohoiekkodaaDoor.Op
open Go.RowKit Go.Proofs.YtodiohoiekkodaaDoor.Bd Go.Proofs.YtodiohoiekkodaaDoor.Sp Go.Proofs.YtodiohoiekkodaaDoor.Rf Go.Proofs.YtodiohoiekkodaaDoorW.PrintWords
set_option maxHeartbeats 600000 in
set_option maxRecDepth 100000 in
theorem rp_kSub_truetrue (s x : ByteArray) (a b : ByteArray) (w : World) (hs : s.size ≤ 1000) (hxr : words s = [x, a, b]) (hx : x = kSub) (hu : decide (0 ≤ numS a.data.toList) = true) (hw : unwO b = true) (sb : b.size ≤ 100000) :
    Calls Tryd.prog 15 #[.string s] w fun e w' => e = .returned (refParseV s) ∧ Below w.heap.size w w' := by
  have hv : refParseV s = .tuple #[.agg #[.int .i64 1, .int .i64 (numS a.data.toList), .string (unwT b), .string ⟨#[]⟩, .bool false], .int .i64 0] := by
    unfold refParseV; rw [hxr, hx]
    have e1 : kindOK kSub = true := by decide
    have e2 : kindK kSub = 1 := by decide
    have e3 : kindKeep kSub = false := by decide
    have hu' := of_decide_eq_true hu
    have e4 : refR 1 [a, b] = some (numS a.data.toList, unwT b, ⟨#[]⟩) := by unfold refR; simp only [show ((1 : Int) = 3) = False from by simp, show ((1 : Int) < 3) = True from by simp, if_false, if_true]; rw [if_pos ⟨hw, hu'⟩]
    simp only [e1, e2, e3, e4, Bool.true_eq_false, if_false]
  have q0 : (x.toList == ([115, 117, 98] : Bs)) = true := by rw [tl_eq]; exact decide_eq_true hx
  have HV := Lib.hid hv
  have hsp : ∀ w, Calls Tryd.prog 40 #[.string s] w fun e w' => ∃ g c, e = .returned (.slice (some ⟨g, 0, none⟩) 3 c) ∧ w.heap.size ≤ g ∧ g < w'.heap.size ∧ (∀ j x, (words s)[j]? = some x → w'.cell? ⟨g, j, none⟩ = some (.string x)) ∧ Below w.heap.size w w' := by
    intro w; have h := rsplit_any s w (by omega); have e : (words s).length = 3 := by rw [hxr]; rfl
    rw [e] at h; exact h
  have HSP := Lib.hid hsp
  have HXR := Lib.hid hxr
  have rs0 : XAt w.heap.size 0 0 ⟨#[]⟩ ⟨#[]⟩ false (w.alloc (.cells #[.int .i64 0, .int .i64 0, .string ⟨#[]⟩, .string ⟨#[]⟩, .bool false] 23)) := heap_alloc_new _ _
  have HR0 := Lib.hid rs0
  clear hv hsp rs0 hxr hx
  go_enter Tryd.func15, Tryd.ntmps15
  go_wp2_with fail
  refine (HSP.out _).mono ?_
  rintro e w1 ⟨g, c, rfl, hg1, hg2, hcl, hb1⟩
  have d0 : ∀ o, (w1.alloc o).cell? ⟨g, 0, none⟩ = some (.string x) := (fun o => keep_cell ((Below.refl _ _).alloc (Nat.le_refl _) o) (hcl 0 x (by rw [HXR.out]; rfl)))
  have d1 : (w1.alloc (.cells #[.int .i64 1, .int .i64 0, .string ⟨#[]⟩, .string ⟨#[]⟩, .bool false] 23)).cell? ⟨g, 1, none⟩ = some (.string a) := keep_cell ((Below.refl _ _).alloc (Nat.le_refl _) _) (hcl 1 a (by rw [HXR.out]; rfl))
  have d2 : (w1.alloc (.cells #[.int .i64 1, .int .i64 0, .string ⟨#[]⟩, .string ⟨#[]⟩, .bool false] 23)).cell? ⟨g, 2, none⟩ = some (.string b) := keep_cell ((Below.refl _ _).alloc (Nat.le_refl _) _) (hcl 2 b (by rw [HXR.out]; rfl))
  have w1b : w.heap.size + 1 ≤ w1.heap.size := by have := hb1.size; simp at this; omega
  have hn : XAt w.heap.size 0 0 ⟨#[]⟩ ⟨#[]⟩ false (w1.alloc (.cells #[.int .i64 1, .int .i64 0, .string ⟨#[]⟩, .string ⟨#[]⟩, .bool false] 23)) := (Below.heap_alloc _ _ _ (by omega)).trans ((hb1.block _ (by simp)).trans HR0.out)
  have hx : XAt w1.heap.size 1 0 ⟨#[]⟩ ⟨#[]⟩ false (w1.alloc (.cells #[.int .i64 1, .int .i64 0, .string ⟨#[]⟩, .string ⟨#[]⟩, .bool false] 23)) := heap_alloc_new _ _
  have hb : Below w.heap.size w (w1.alloc (.cells #[.int .i64 1, .int .i64 0, .string ⟨#[]⟩, .string ⟨#[]⟩, .bool false] 23)) := (((Below.refl _ w).alloc (Nat.le_refl _) _).trans (hb1.mono (by simp))).alloc (by omega) _
  have HNE : Hid (w.heap.size ≠ w1.heap.size) := Lib.hid (by omega)
  have HG : Hid (g ≠ w1.heap.size) := Lib.hid (by omega)
  have HLE : Hid (w.heap.size ≤ w1.heap.size) := Lib.hid (by omega)
  have HN := Lib.hid hn; have HX := Lib.hid hx; have HB := Lib.hid hb
  have c0 := opc0 hn; have c1 := opc1 hn; have c2 := opc2 hn; have c3 := opc3 hn; have c4 := opc4 hn; have cf := opf hn
  clear hn hx hb hg1 hg2 hcl hb1 HR0 w1b
  have HW := Lib.hid hw; clear hw
  go_wp2_with fail
  refine (rnum_any a _).mono ?_
  rintro e w2 ⟨rfl, hb2⟩
  have x2 : XAt w1.heap.size 1 0 ⟨#[]⟩ ⟨#[]⟩ false w2 := keepX hb2 HX.out
  have n2 : XAt w.heap.size 0 0 ⟨#[]⟩ ⟨#[]⟩ false w2 := keepX hb2 HN.out
  have b2 : Below w.heap.size w w2 := HB.out.trans (hb2.mono HB.out.size)
  generalize numS a.data.toList = v at *
  have l3 := fun v => sets_cell w1.heap.size 1 v HG.out (keep_cell hb2 d2)
  have y20 := opc0 x2; have y21 := opc1 x2; have y22 := opc2 x2; have y23 := opc3 x2; have y24 := opc4 x2; have y2f := opf x2
  have X2 := Lib.hid (xset1 x2 v); have N2 := Lib.hid (xoth HNE.out n2 1 (.int .i64 v)); have B2 := Lib.hid (b2.setCell (p := ⟨w1.heap.size, 1, none⟩) HLE.out (.int .i64 v))
  clear hb2 x2 n2 b2
  go_wp2_with fail
  refine (runw_any b _ sb).mono ?_
  rintro e w3 ⟨rfl, hb3⟩
  rw [HW.out]
  have x3 : XAt w1.heap.size 1 v ⟨#[]⟩ ⟨#[]⟩ false w3 := keepX hb3 X2.out
  have n3 : XAt w.heap.size 0 0 ⟨#[]⟩ ⟨#[]⟩ false w3 := keepX hb3 N2.out
  have b3 : Below w.heap.size w w3 := B2.out.trans (hb3.mono B2.out.size)
  have y30 := opc0 x3; have y31 := opc1 x3; have y32 := opc2 x3; have y33 := opc3 x3; have y34 := opc4 x3; have y3f := opf x3
  have n30 := opc0 n3; have n31 := opc1 n3; have n32 := opc2 n3; have n33 := opc3 n3; have n34 := opc4 n3; have n3f := opf n3
  have b4 := b3.setCell (p := ⟨w1.heap.size, 2, none⟩) HLE.out (.string (unwT b))
  clear hb3 x3 n3
  have hne1 := HNE.out; have hne2 := HNE.out.symm
  go_wp2_with fail
  refine bodyPost_ret (v := refParseV s) ?_ rfl ⟨rfl, ?_⟩
  · rw [HV.out]
    simp [results, Tryd.results15, go_sem, n30, n31, n32, n33, n34]
  · exact (((((b4).setCell (Nat.le_refl _) _).setCell (Nat.le_refl _) _).setCell (Nat.le_refl _) _).setCell (Nat.le_refl _) _).setCell (Nat.le_refl _) _
set_option maxHeartbeats 600000 in
set_option maxRecDepth 100000 in
theorem rp_kSub_truefalse (s x : ByteArray) (a b : ByteArray) (w : World) (hs : s.size ≤ 1000) (hxr : words s = [x, a, b]) (hx : x = kSub) (hu : decide (0 ≤ numS a.data.toList) = true) (hw : unwO b = false) (sb : b.size ≤ 100000) :
    Calls Tryd.prog 15 #[.string s] w fun e w' => e = .returned (refParseV s) ∧ Below w.heap.size w w' := by
  have hv : refParseV s = .tuple #[opZ, .int .i64 10] := by
    unfold refParseV; rw [hxr, hx]
    have e1 : kindOK kSub = true := by decide
    have e2 : kindK kSub = 1 := by decide
    have e3 : kindKeep kSub = false := by decide
    have hu' := of_decide_eq_true hu
    have e4 : refR 1 [a, b] = none := by unfold refR; simp only [show ((1 : Int) = 3) = False from by simp, show ((1 : Int) < 3) = True from by simp, if_false, if_true]; rw [if_neg (fun h => by rw [hw] at h; exact absurd h.1 (by decide))]
    simp only [e1, e2, e4, Bool.true_eq_false, if_false]
  have q0 : (x.toList == ([115, 117, 98] : Bs)) = true := by rw [tl_eq]; exact decide_eq_true hx
  have HV := Lib.hid hv
  have hsp : ∀ w, Calls Tryd.prog 40 #[.string s] w fun e w' => ∃ g c, e = .returned (.slice (some ⟨g, 0, none⟩) 3 c) ∧ w.heap.size ≤ g ∧ g < w'.heap.size ∧ (∀ j x, (words s)[j]? = some x → w'.cell? ⟨g, j, none⟩ = some (.string x)) ∧ Below w.heap.size w w' := by
    intro w; have h := rsplit_any s w (by omega); have e : (words s).length = 3 := by rw [hxr]; rfl
    rw [e] at h; exact h
  have HSP := Lib.hid hsp
  have HXR := Lib.hid hxr
  have rs0 : XAt w.heap.size 0 0 ⟨#[]⟩ ⟨#[]⟩ false (w.alloc (.cells #[.int .i64 0, .int .i64 0, .string ⟨#[]⟩, .string ⟨#[]⟩, .bool false] 23)) := heap_alloc_new _ _
  have HR0 := Lib.hid rs0
  clear hv hsp rs0 hxr hx
  go_enter Tryd.func15, Tryd.ntmps15
  go_wp2_with fail
  refine (HSP.out _).mono ?_
  rintro e w1 ⟨g, c, rfl, hg1, hg2, hcl, hb1⟩
  have d0 : ∀ o, (w1.alloc o).cell? ⟨g, 0, none⟩ = some (.string x) := (fun o => keep_cell ((Below.refl _ _).alloc (Nat.le_refl _) o) (hcl 0 x (by rw [HXR.out]; rfl)))
  have d1 : (w1.alloc (.cells #[.int .i64 1, .int .i64 0, .string ⟨#[]⟩, .string ⟨#[]⟩, .bool false] 23)).cell? ⟨g, 1, none⟩ = some (.string a) := keep_cell ((Below.refl _ _).alloc (Nat.le_refl _) _) (hcl 1 a (by rw [HXR.out]; rfl))
  have d2 : (w1.alloc (.cells #[.int .i64 1, .int .i64 0, .string ⟨#[]⟩, .string ⟨#[]⟩, .bool false] 23)).cell? ⟨g, 2, none⟩ = some (.string b) := keep_cell ((Below.refl _ _).alloc (Nat.le_refl _) _) (hcl 2 b (by rw [HXR.out]; rfl))
  have w1b : w.heap.size + 1 ≤ w1.heap.size := by have := hb1.size; simp at this; omega
  have hn : XAt w.heap.size 0 0 ⟨#[]⟩ ⟨#[]⟩ false (w1.alloc (.cells #[.int .i64 1, .int .i64 0, .string ⟨#[]⟩, .string ⟨#[]⟩, .bool false] 23)) := (Below.heap_alloc _ _ _ (by omega)).trans ((hb1.block _ (by simp)).trans HR0.out)
  have hx : XAt w1.heap.size 1 0 ⟨#[]⟩ ⟨#[]⟩ false (w1.alloc (.cells #[.int .i64 1, .int .i64 0, .string ⟨#[]⟩, .string ⟨#[]⟩, .bool false] 23)) := heap_alloc_new _ _
  have hb : Below w.heap.size w (w1.alloc (.cells #[.int .i64 1, .int .i64 0, .string ⟨#[]⟩, .string ⟨#[]⟩, .bool false] 23)) := (((Below.refl _ w).alloc (Nat.le_refl _) _).trans (hb1.mono (by simp))).alloc (by omega) _
  have HNE : Hid (w.heap.size ≠ w1.heap.size) := Lib.hid (by omega)
  have HG : Hid (g ≠ w1.heap.size) := Lib.hid (by omega)
  have HLE : Hid (w.heap.size ≤ w1.heap.size) := Lib.hid (by omega)
  have HN := Lib.hid hn; have HX := Lib.hid hx; have HB := Lib.hid hb
  have c0 := opc0 hn; have c1 := opc1 hn; have c2 := opc2 hn; have c3 := opc3 hn; have c4 := opc4 hn; have cf := opf hn
  clear hn hx hb hg1 hg2 hcl hb1 HR0 w1b
  have HW := Lib.hid hw; clear hw
  go_wp2_with fail
  refine (rnum_any a _).mono ?_
  rintro e w2 ⟨rfl, hb2⟩
  have x2 : XAt w1.heap.size 1 0 ⟨#[]⟩ ⟨#[]⟩ false w2 := keepX hb2 HX.out
  have n2 : XAt w.heap.size 0 0 ⟨#[]⟩ ⟨#[]⟩ false w2 := keepX hb2 HN.out
  have b2 : Below w.heap.size w w2 := HB.out.trans (hb2.mono HB.out.size)
  generalize numS a.data.toList = v at *
  have l3 := fun v => sets_cell w1.heap.size 1 v HG.out (keep_cell hb2 d2)
  have y20 := opc0 x2; have y21 := opc1 x2; have y22 := opc2 x2; have y23 := opc3 x2; have y24 := opc4 x2; have y2f := opf x2
  have X2 := Lib.hid (xset1 x2 v); have N2 := Lib.hid (xoth HNE.out n2 1 (.int .i64 v)); have B2 := Lib.hid (b2.setCell (p := ⟨w1.heap.size, 1, none⟩) HLE.out (.int .i64 v))
  clear hb2 x2 n2 b2
  go_wp2_with fail
  refine (runw_any b _ sb).mono ?_
  rintro e w3 ⟨rfl, hb3⟩
  rw [HW.out]
  have x3 : XAt w1.heap.size 1 v ⟨#[]⟩ ⟨#[]⟩ false w3 := keepX hb3 X2.out
  have n3 : XAt w.heap.size 0 0 ⟨#[]⟩ ⟨#[]⟩ false w3 := keepX hb3 N2.out
  have b3 : Below w.heap.size w w3 := B2.out.trans (hb3.mono B2.out.size)
  have y30 := opc0 x3; have y31 := opc1 x3; have y32 := opc2 x3; have y33 := opc3 x3; have y34 := opc4 x3; have y3f := opf x3
  have n30 := opc0 n3; have n31 := opc1 n3; have n32 := opc2 n3; have n33 := opc3 n3; have n34 := opc4 n3; have n3f := opf n3
  have b4 := b3.setCell (p := ⟨w1.heap.size, 2, none⟩) HLE.out (.string (unwT b))
  clear hb3 x3 n3
  have hne1 := HNE.out; have hne2 := HNE.out.symm
  go_wp2_with fail
  refine bodyPost_ret (v := refParseV s) ?_ rfl ⟨rfl, ?_⟩
  · rw [HV.out]
    simp [results, Tryd.results15, go_sem, n30, n31, n32, n33, n34, opZ]
  · exact (((((b4).setCell (Nat.le_refl _) _).setCell (Nat.le_refl _) _).setCell (Nat.le_refl _) _).setCell (Nat.le_refl _) _).setCell (Nat.le_refl _) _
set_option maxHeartbeats 600000 in
set_option maxRecDepth 100000 in
theorem rp_kSub_falsetrue (s x : ByteArray) (a b : ByteArray) (w : World) (hs : s.size ≤ 1000) (hxr : words s = [x, a, b]) (hx : x = kSub) (hu : decide (0 ≤ numS a.data.toList) = false) (hw : unwO b = true) (sb : b.size ≤ 100000) :
    Calls Tryd.prog 15 #[.string s] w fun e w' => e = .returned (refParseV s) ∧ Below w.heap.size w w' := by
  have hv : refParseV s = .tuple #[opZ, .int .i64 10] := by
    unfold refParseV; rw [hxr, hx]
    have e1 : kindOK kSub = true := by decide
    have e2 : kindK kSub = 1 := by decide
    have e3 : kindKeep kSub = false := by decide
    have hu' := of_decide_eq_false hu
    have e4 : refR 1 [a, b] = none := by unfold refR; simp only [show ((1 : Int) = 3) = False from by simp, show ((1 : Int) < 3) = True from by simp, if_false, if_true]; rw [if_neg (fun h => hu' h.2)]
    simp only [e1, e2, e4, Bool.true_eq_false, if_false]
  have q0 : (x.toList == ([115, 117, 98] : Bs)) = true := by rw [tl_eq]; exact decide_eq_true hx
  have HV := Lib.hid hv
  have hsp : ∀ w, Calls Tryd.prog 40 #[.string s] w fun e w' => ∃ g c, e = .returned (.slice (some ⟨g, 0, none⟩) 3 c) ∧ w.heap.size ≤ g ∧ g < w'.heap.size ∧ (∀ j x, (words s)[j]? = some x → w'.cell? ⟨g, j, none⟩ = some (.string x)) ∧ Below w.heap.size w w' := by
    intro w; have h := rsplit_any s w (by omega); have e : (words s).length = 3 := by rw [hxr]; rfl
    rw [e] at h; exact h
  have HSP := Lib.hid hsp
  have HXR := Lib.hid hxr
  have rs0 : XAt w.heap.size 0 0 ⟨#[]⟩ ⟨#[]⟩ false (w.alloc (.cells #[.int .i64 0, .int .i64 0, .string ⟨#[]⟩, .string ⟨#[]⟩, .bool false] 23)) := heap_alloc_new _ _
  have HR0 := Lib.hid rs0
  clear hv hsp rs0 hxr hx
  go_enter Tryd.func15, Tryd.ntmps15
  go_wp2_with fail
  refine (HSP.out _).mono ?_
  rintro e w1 ⟨g, c, rfl, hg1, hg2, hcl, hb1⟩
  have d0 : ∀ o, (w1.alloc o).cell? ⟨g, 0, none⟩ = some (.string x) := (fun o => keep_cell ((Below.refl _ _).alloc (Nat.le_refl _) o) (hcl 0 x (by rw [HXR.out]; rfl)))
  have d1 : (w1.alloc (.cells #[.int .i64 1, .int .i64 0, .string ⟨#[]⟩, .string ⟨#[]⟩, .bool false] 23)).cell? ⟨g, 1, none⟩ = some (.string a) := keep_cell ((Below.refl _ _).alloc (Nat.le_refl _) _) (hcl 1 a (by rw [HXR.out]; rfl))
  have d2 : (w1.alloc (.cells #[.int .i64 1, .int .i64 0, .string ⟨#[]⟩, .string ⟨#[]⟩, .bool false] 23)).cell? ⟨g, 2, none⟩ = some (.string b) := keep_cell ((Below.refl _ _).alloc (Nat.le_refl _) _) (hcl 2 b (by rw [HXR.out]; rfl))
  have w1b : w.heap.size + 1 ≤ w1.heap.size := by have := hb1.size; simp at this; omega
  have hn : XAt w.heap.size 0 0 ⟨#[]⟩ ⟨#[]⟩ false (w1.alloc (.cells #[.int .i64 1, .int .i64 0, .string ⟨#[]⟩, .string ⟨#[]⟩, .bool false] 23)) := (Below.heap_alloc _ _ _ (by omega)).trans ((hb1.block _ (by simp)).trans HR0.out)
  have hx : XAt w1.heap.size 1 0 ⟨#[]⟩ ⟨#[]⟩ false (w1.alloc (.cells #[.int .i64 1, .int .i64 0, .string ⟨#[]⟩, .string ⟨#[]⟩, .bool false] 23)) := heap_alloc_new _ _
  have hb : Below w.heap.size w (w1.alloc (.cells #[.int .i64 1, .int .i64 0, .string ⟨#[]⟩, .string ⟨#[]⟩, .bool false] 23)) := (((Below.refl _ w).alloc (Nat.le_refl _) _).trans (hb1.mono (by simp))).alloc (by omega) _
  have HNE : Hid (w.heap.size ≠ w1.heap.size) := Lib.hid (by omega)
  have HG : Hid (g ≠ w1.heap.size) := Lib.hid (by omega)
  have HLE : Hid (w.heap.size ≤ w1.heap.size) := Lib.hid (by omega)
  have HN := Lib.hid hn; have HX := Lib.hid hx; have HB := Lib.hid hb
  have c0 := opc0 hn; have c1 := opc1 hn; have c2 := opc2 hn; have c3 := opc3 hn; have c4 := opc4 hn; have cf := opf hn
  clear hn hx hb hg1 hg2 hcl hb1 HR0 w1b
  have HW := Lib.hid hw; clear hw
  go_wp2_with fail
  refine (rnum_any a _).mono ?_
  rintro e w2 ⟨rfl, hb2⟩
  have x2 : XAt w1.heap.size 1 0 ⟨#[]⟩ ⟨#[]⟩ false w2 := keepX hb2 HX.out
  have n2 : XAt w.heap.size 0 0 ⟨#[]⟩ ⟨#[]⟩ false w2 := keepX hb2 HN.out
  have b2 : Below w.heap.size w w2 := HB.out.trans (hb2.mono HB.out.size)
  generalize numS a.data.toList = v at *
  have l3 := fun v => sets_cell w1.heap.size 1 v HG.out (keep_cell hb2 d2)
  have y20 := opc0 x2; have y21 := opc1 x2; have y22 := opc2 x2; have y23 := opc3 x2; have y24 := opc4 x2; have y2f := opf x2
  have X2 := Lib.hid (xset1 x2 v); have N2 := Lib.hid (xoth HNE.out n2 1 (.int .i64 v)); have B2 := Lib.hid (b2.setCell (p := ⟨w1.heap.size, 1, none⟩) HLE.out (.int .i64 v))
  clear hb2 x2 n2 b2
  go_wp2_with fail
  refine (runw_any b _ sb).mono ?_
  rintro e w3 ⟨rfl, hb3⟩
  rw [HW.out]
  have x3 : XAt w1.heap.size 1 v ⟨#[]⟩ ⟨#[]⟩ false w3 := keepX hb3 X2.out
  have n3 : XAt w.heap.size 0 0 ⟨#[]⟩ ⟨#[]⟩ false w3 := keepX hb3 N2.out
  have b3 : Below w.heap.size w w3 := B2.out.trans (hb3.mono B2.out.size)
  have y30 := opc0 x3; have y31 := opc1 x3; have y32 := opc2 x3; have y33 := opc3 x3; have y34 := opc4 x3; have y3f := opf x3
  have n30 := opc0 n3; have n31 := opc1 n3; have n32 := opc2 n3; have n33 := opc3 n3; have n34 := opc4 n3; have n3f := opf n3
  have b4 := b3.setCell (p := ⟨w1.heap.size, 2, none⟩) HLE.out (.string (unwT b))
  clear hb3 x3 n3
  have hne1 := HNE.out; have hne2 := HNE.out.symm
  go_wp2_with fail
  refine bodyPost_ret (v := refParseV s) ?_ rfl ⟨rfl, ?_⟩
  · rw [HV.out]
    simp [results, Tryd.results15, go_sem, n30, n31, n32, n33, n34, opZ]
  · exact (((((b4).setCell (Nat.le_refl _) _).setCell (Nat.le_refl _) _).setCell (Nat.le_refl _) _).setCell (Nat.le_refl _) _).setCell (Nat.le_refl _) _
set_option maxHeartbeats 600000 in
set_option maxRecDepth 100000 in
theorem rp_kSub_falsefalse (s x : ByteArray) (a b : ByteArray) (w : World) (hs : s.size ≤ 1000) (hxr : words s = [x, a, b]) (hx : x = kSub) (hu : decide (0 ≤ numS a.data.toList) = false) (hw : unwO b = false) (sb : b.size ≤ 100000) :
    Calls Tryd.prog 15 #[.string s] w fun e w' => e = .returned (refParseV s) ∧ Below w.heap.size w w' := by
  have hv : refParseV s = .tuple #[opZ, .int .i64 10] := by
    unfold refParseV; rw [hxr, hx]
    have e1 : kindOK kSub = true := by decide
    have e2 : kindK kSub = 1 := by decide
    have e3 : kindKeep kSub = false := by decide
    have hu' := of_decide_eq_false hu
    have e4 : refR 1 [a, b] = none := by unfold refR; simp only [show ((1 : Int) = 3) = False from by simp, show ((1 : Int) < 3) = True from by simp, if_false, if_true]; rw [if_neg (fun h => hu' h.2)]
    simp only [e1, e2, e4, Bool.true_eq_false, if_false]
  have q0 : (x.toList == ([115, 117, 98] : Bs)) = true := by rw [tl_eq]; exact decide_eq_true hx
  have HV := Lib.hid hv
  have hsp : ∀ w, Calls Tryd.prog 40 #[.string s] w fun e w' => ∃ g c, e = .returned (.slice (some ⟨g, 0, none⟩) 3 c) ∧ w.heap.size ≤ g ∧ g < w'.heap.size ∧ (∀ j x, (words s)[j]? = some x → w'.cell? ⟨g, j, none⟩ = some (.string x)) ∧ Below w.heap.size w w' := by
    intro w; have h := rsplit_any s w (by omega); have e : (words s).length = 3 := by rw [hxr]; rfl
    rw [e] at h; exact h
  have HSP := Lib.hid hsp
  have HXR := Lib.hid hxr
  have rs0 : XAt w.heap.size 0 0 ⟨#[]⟩ ⟨#[]⟩ false (w.alloc (.cells #[.int .i64 0, .int .i64 0, .string ⟨#[]⟩, .string ⟨#[]⟩, .bool false] 23)) := heap_alloc_new _ _
  have HR0 := Lib.hid rs0
  clear hv hsp rs0 hxr hx
  go_enter Tryd.func15, Tryd.ntmps15
  go_wp2_with fail
  refine (HSP.out _).mono ?_
  rintro e w1 ⟨g, c, rfl, hg1, hg2, hcl, hb1⟩
  have d0 : ∀ o, (w1.alloc o).cell? ⟨g, 0, none⟩ = some (.string x) := (fun o => keep_cell ((Below.refl _ _).alloc (Nat.le_refl _) o) (hcl 0 x (by rw [HXR.out]; rfl)))
  have d1 : (w1.alloc (.cells #[.int .i64 1, .int .i64 0, .string ⟨#[]⟩, .string ⟨#[]⟩, .bool false] 23)).cell? ⟨g, 1, none⟩ = some (.string a) := keep_cell ((Below.refl _ _).alloc (Nat.le_refl _) _) (hcl 1 a (by rw [HXR.out]; rfl))
  have d2 : (w1.alloc (.cells #[.int .i64 1, .int .i64 0, .string ⟨#[]⟩, .string ⟨#[]⟩, .bool false] 23)).cell? ⟨g, 2, none⟩ = some (.string b) := keep_cell ((Below.refl _ _).alloc (Nat.le_refl _) _) (hcl 2 b (by rw [HXR.out]; rfl))
  have w1b : w.heap.size + 1 ≤ w1.heap.size := by have := hb1.size; simp at this; omega
  have hn : XAt w.heap.size 0 0 ⟨#[]⟩ ⟨#[]⟩ false (w1.alloc (.cells #[.int .i64 1, .int .i64 0, .string ⟨#[]⟩, .string ⟨#[]⟩, .bool false] 23)) := (Below.heap_alloc _ _ _ (by omega)).trans ((hb1.block _ (by simp)).trans HR0.out)
  have hx : XAt w1.heap.size 1 0 ⟨#[]⟩ ⟨#[]⟩ false (w1.alloc (.cells #[.int .i64 1, .int .i64 0, .string ⟨#[]⟩, .string ⟨#[]⟩, .bool false] 23)) := heap_alloc_new _ _
  have hb : Below w.heap.size w (w1.alloc (.cells #[.int .i64 1, .int .i64 0, .string ⟨#[]⟩, .string ⟨#[]⟩, .bool false] 23)) := (((Below.refl _ w).alloc (Nat.le_refl _) _).trans (hb1.mono (by simp))).alloc (by omega) _
  have HNE : Hid (w.heap.size ≠ w1.heap.size) := Lib.hid (by omega)
  have HG : Hid (g ≠ w1.heap.size) := Lib.hid (by omega)
  have HLE : Hid (w.heap.size ≤ w1.heap.size) := Lib.hid (by omega)
  have HN := Lib.hid hn; have HX := Lib.hid hx; have HB := Lib.hid hb
  have c0 := opc0 hn; have c1 := opc1 hn; have c2 := opc2 hn; have c3 := opc3 hn; have c4 := opc4 hn; have cf := opf hn
  clear hn hx hb hg1 hg2 hcl hb1 HR0 w1b
  have HW := Lib.hid hw; clear hw
  go_wp2_with fail
  refine (rnum_any a _).mono ?_
  rintro e w2 ⟨rfl, hb2⟩
  have x2 : XAt w1.heap.size 1 0 ⟨#[]⟩ ⟨#[]⟩ false w2 := keepX hb2 HX.out
  have n2 : XAt w.heap.size 0 0 ⟨#[]⟩ ⟨#[]⟩ false w2 := keepX hb2 HN.out
  have b2 : Below w.heap.size w w2 := HB.out.trans (hb2.mono HB.out.size)
  generalize numS a.data.toList = v at *
  have l3 := fun v => sets_cell w1.heap.size 1 v HG.out (keep_cell hb2 d2)
  have y20 := opc0 x2; have y21 := opc1 x2; have y22 := opc2 x2; have y23 := opc3 x2; have y24 := opc4 x2; have y2f := opf x2
  have X2 := Lib.hid (xset1 x2 v); have N2 := Lib.hid (xoth HNE.out n2 1 (.int .i64 v)); have B2 := Lib.hid (b2.setCell (p := ⟨w1.heap.size, 1, none⟩) HLE.out (.int .i64 v))
  clear hb2 x2 n2 b2
  go_wp2_with fail
  refine (runw_any b _ sb).mono ?_
  rintro e w3 ⟨rfl, hb3⟩
  rw [HW.out]
  have x3 : XAt w1.heap.size 1 v ⟨#[]⟩ ⟨#[]⟩ false w3 := keepX hb3 X2.out
  have n3 : XAt w.heap.size 0 0 ⟨#[]⟩ ⟨#[]⟩ false w3 := keepX hb3 N2.out
  have b3 : Below w.heap.size w w3 := B2.out.trans (hb3.mono B2.out.size)
  have y30 := opc0 x3; have y31 := opc1 x3; have y32 := opc2 x3; have y33 := opc3 x3; have y34 := opc4 x3; have y3f := opf x3
  have n30 := opc0 n3; have n31 := opc1 n3; have n32 := opc2 n3; have n33 := opc3 n3; have n34 := opc4 n3; have n3f := opf n3
  have b4 := b3.setCell (p := ⟨w1.heap.size, 2, none⟩) HLE.out (.string (unwT b))
  clear hb3 x3 n3
  have hne1 := HNE.out; have hne2 := HNE.out.symm
  go_wp2_with fail
  refine bodyPost_ret (v := refParseV s) ?_ rfl ⟨rfl, ?_⟩
  · rw [HV.out]
    simp [results, Tryd.results15, go_sem, n30, n31, n32, n33, n34, opZ]
  · exact (((((b4).setCell (Nat.le_refl _) _).setCell (Nat.le_refl _) _).setCell (Nat.le_refl _) _).setCell (Nat.le_refl _) _).setCell (Nat.le_refl _) _
set_option maxHeartbeats 600000 in
set_option maxRecDepth 100000 in
theorem rp_kUnsub_truetrue (s x : ByteArray) (a b : ByteArray) (w : World) (hs : s.size ≤ 1000) (hxr : words s = [x, a, b]) (hx : x = kUnsub) (hu : decide (0 ≤ numS a.data.toList) = true) (hw : unwO b = true) (sb : b.size ≤ 100000) :
    Calls Tryd.prog 15 #[.string s] w fun e w' => e = .returned (refParseV s) ∧ Below w.heap.size w w' := by
  have hv : refParseV s = .tuple #[.agg #[.int .i64 2, .int .i64 (numS a.data.toList), .string (unwT b), .string ⟨#[]⟩, .bool false], .int .i64 0] := by
    unfold refParseV; rw [hxr, hx]
    have e1 : kindOK kUnsub = true := by decide
    have e2 : kindK kUnsub = 2 := by decide
    have e3 : kindKeep kUnsub = false := by decide
    have hu' := of_decide_eq_true hu
    have e4 : refR 2 [a, b] = some (numS a.data.toList, unwT b, ⟨#[]⟩) := by unfold refR; simp only [show ((2 : Int) = 3) = False from by simp, show ((2 : Int) < 3) = True from by simp, if_false, if_true]; rw [if_pos ⟨hw, hu'⟩]
    simp only [e1, e2, e3, e4, Bool.true_eq_false, if_false]
  have q0 : (x.toList == ([115, 117, 98] : Bs)) = false := by rw [tl_eq]; exact decide_eq_false (by rw [hx]; decide)
  have q1 : (x.toList == ([117, 110, 115, 117, 98] : Bs)) = true := by rw [tl_eq]; exact decide_eq_true hx
  have HV := Lib.hid hv
  have hsp : ∀ w, Calls Tryd.prog 40 #[.string s] w fun e w' => ∃ g c, e = .returned (.slice (some ⟨g, 0, none⟩) 3 c) ∧ w.heap.size ≤ g ∧ g < w'.heap.size ∧ (∀ j x, (words s)[j]? = some x → w'.cell? ⟨g, j, none⟩ = some (.string x)) ∧ Below w.heap.size w w' := by
    intro w; have h := rsplit_any s w (by omega); have e : (words s).length = 3 := by rw [hxr]; rfl
    rw [e] at h; exact h
  have HSP := Lib.hid hsp
  have HXR := Lib.hid hxr
  have rs0 : XAt w.heap.size 0 0 ⟨#[]⟩ ⟨#[]⟩ false (w.alloc (.cells #[.int .i64 0, .int .i64 0, .string ⟨#[]⟩, .string ⟨#[]⟩, .bool false] 23)) := heap_alloc_new _ _
  have HR0 := Lib.hid rs0
  clear hv hsp rs0 hxr hx
  go_enter Tryd.func15, Tryd.ntmps15
  go_wp2_with fail
  refine (HSP.out _).mono ?_
  rintro e w1 ⟨g, c, rfl, hg1, hg2, hcl, hb1⟩
  have d0 : ∀ o, (w1.alloc o).cell? ⟨g, 0, none⟩ = some (.string x) := (fun o => keep_cell ((Below.refl _ _).alloc (Nat.le_refl _) o) (hcl 0 x (by rw [HXR.out]; rfl)))
  have d1 : (w1.alloc (.cells #[.int .i64 2, .int .i64 0, .string ⟨#[]⟩, .string ⟨#[]⟩, .bool false] 23)).cell? ⟨g, 1, none⟩ = some (.string a) := keep_cell ((Below.refl _ _).alloc (Nat.le_refl _) _) (hcl 1 a (by rw [HXR.out]; rfl))
  have d2 : (w1.alloc (.cells #[.int .i64 2, .int .i64 0, .string ⟨#[]⟩, .string ⟨#[]⟩, .bool false] 23)).cell? ⟨g, 2, none⟩ = some (.string b) := keep_cell ((Below.refl _ _).alloc (Nat.le_refl _) _) (hcl 2 b (by rw [HXR.out]; rfl))
  have w1b : w.heap.size + 1 ≤ w1.heap.size := by have := hb1.size; simp at this; omega
  have hn : XAt w.heap.size 0 0 ⟨#[]⟩ ⟨#[]⟩ false (w1.alloc (.cells #[.int .i64 2, .int .i64 0, .string ⟨#[]⟩, .string ⟨#[]⟩, .bool false] 23)) := (Below.heap_alloc _ _ _ (by omega)).trans ((hb1.block _ (by simp)).trans HR0.out)
  have hx : XAt w1.heap.size 2 0 ⟨#[]⟩ ⟨#[]⟩ false (w1.alloc (.cells #[.int .i64 2, .int .i64 0, .string ⟨#[]⟩, .string ⟨#[]⟩, .bool false] 23)) := heap_alloc_new _ _
  have hb : Below w.heap.size w (w1.alloc (.cells #[.int .i64 2, .int .i64 0, .string ⟨#[]⟩, .string ⟨#[]⟩, .bool false] 23)) := (((Below.refl _ w).alloc (Nat.le_refl _) _).trans (hb1.mono (by simp))).alloc (by omega) _
  have HNE : Hid (w.heap.size ≠ w1.heap.size) := Lib.hid (by omega)
  have HG : Hid (g ≠ w1.heap.size) := Lib.hid (by omega)
  have HLE : Hid (w.heap.size ≤ w1.heap.size) := Lib.hid (by omega)
  have HN := Lib.hid hn; have HX := Lib.hid hx; have HB := Lib.hid hb
  have c0 := opc0 hn; have c1 := opc1 hn; have c2 := opc2 hn; have c3 := opc3 hn; have c4 := opc4 hn; have cf := opf hn
  clear hn hx hb hg1 hg2 hcl hb1 HR0 w1b
  have HW := Lib.hid hw; clear hw
  go_wp2_with fail
  refine (rnum_any a _).mono ?_
  rintro e w2 ⟨rfl, hb2⟩
  have x2 : XAt w1.heap.size 2 0 ⟨#[]⟩ ⟨#[]⟩ false w2 := keepX hb2 HX.out
  have n2 : XAt w.heap.size 0 0 ⟨#[]⟩ ⟨#[]⟩ false w2 := keepX hb2 HN.out
  have b2 : Below w.heap.size w w2 := HB.out.trans (hb2.mono HB.out.size)
  generalize numS a.data.toList = v at *
  have l3 := fun v => sets_cell w1.heap.size 1 v HG.out (keep_cell hb2 d2)
  have y20 := opc0 x2; have y21 := opc1 x2; have y22 := opc2 x2; have y23 := opc3 x2; have y24 := opc4 x2; have y2f := opf x2
  have X2 := Lib.hid (xset1 x2 v); have N2 := Lib.hid (xoth HNE.out n2 1 (.int .i64 v)); have B2 := Lib.hid (b2.setCell (p := ⟨w1.heap.size, 1, none⟩) HLE.out (.int .i64 v))
  clear hb2 x2 n2 b2
  go_wp2_with fail
  refine (runw_any b _ sb).mono ?_
  rintro e w3 ⟨rfl, hb3⟩
  rw [HW.out]
  have x3 : XAt w1.heap.size 2 v ⟨#[]⟩ ⟨#[]⟩ false w3 := keepX hb3 X2.out
  have n3 : XAt w.heap.size 0 0 ⟨#[]⟩ ⟨#[]⟩ false w3 := keepX hb3 N2.out
  have b3 : Below w.heap.size w w3 := B2.out.trans (hb3.mono B2.out.size)
  have y30 := opc0 x3; have y31 := opc1 x3; have y32 := opc2 x3; have y33 := opc3 x3; have y34 := opc4 x3; have y3f := opf x3
  have n30 := opc0 n3; have n31 := opc1 n3; have n32 := opc2 n3; have n33 := opc3 n3; have n34 := opc4 n3; have n3f := opf n3
  have b4 := b3.setCell (p := ⟨w1.heap.size, 2, none⟩) HLE.out (.string (unwT b))
  clear hb3 x3 n3
  have hne1 := HNE.out; have hne2 := HNE.out.symm
  go_wp2_with fail
  refine bodyPost_ret (v := refParseV s) ?_ rfl ⟨rfl, ?_⟩
  · rw [HV.out]
    simp [results, Tryd.results15, go_sem, n30, n31, n32, n33, n34]
  · exact (((((b4).setCell (Nat.le_refl _) _).setCell (Nat.le_refl _) _).setCell (Nat.le_refl _) _).setCell (Nat.le_refl _) _).setCell (Nat.le_refl _) _
set_option maxHeartbeats 600000 in
set_option maxRecDepth 100000 in
theorem rp_kUnsub_truefalse (s x : ByteArray) (a b : ByteArray) (w : World) (hs : s.size ≤ 1000) (hxr : words s = [x, a, b]) (hx : x = kUnsub) (hu : decide (0 ≤ numS a.data.toList) = true) (hw : unwO b = false) (sb : b.size ≤ 100000) :
    Calls Tryd.prog 15 #[.string s] w fun e w' => e = .returned (refParseV s) ∧ Below w.heap.size w w' := by
  have hv : refParseV s = .tuple #[opZ, .int .i64 10] := by
    unfold refParseV; rw [hxr, hx]
    have e1 : kindOK kUnsub = true := by decide
    have e2 : kindK kUnsub = 2 := by decide
    have e3 : kindKeep kUnsub = false := by decide
    have hu' := of_decide_eq_true hu
    have e4 : refR 2 [a, b] = none := by unfold refR; simp only [show ((2 : Int) = 3) = False from by simp, show ((2 : Int) < 3) = True from by simp, if_false, if_true]; rw [if_neg (fun h => by rw [hw] at h; exact absurd h.1 (by decide))]
    simp only [e1, e2, e4, Bool.true_eq_false, if_false]
  have q0 : (x.toList == ([115, 117, 98] : Bs)) = false := by rw [tl_eq]; exact decide_eq_false (by rw [hx]; decide)
  have q1 : (x.toList == ([117, 110, 115, 117, 98] : Bs)) = true := by rw [tl_eq]; exact decide_eq_true hx
  have HV := Lib.hid hv
  have hsp : ∀ w, Calls Tryd.prog 40 #[.string s] w fun e w' => ∃ g c, e = .returned (.slice (some ⟨g, 0, none⟩) 3 c) ∧ w.heap.size ≤ g ∧ g < w'.heap.size ∧ (∀ j x, (words s)[j]? = some x → w'.cell? ⟨g, j, none⟩ = some (.string x)) ∧ Below w.heap.size w w' := by
    intro w; have h := rsplit_any s w (by omega); have e : (words s).length = 3 := by rw [hxr]; rfl
    rw [e] at h; exact h
  have HSP := Lib.hid hsp
  have HXR := Lib.hid hxr
  have rs0 : XAt w.heap.size 0 0 ⟨#[]⟩ ⟨#[]⟩ false (w.alloc (.cells #[.int .i64 0, .int .i64 0, .string ⟨#[]⟩, .string ⟨#[]⟩, .bool false] 23)) := heap_alloc_new _ _
  have HR0 := Lib.hid rs0
  clear hv hsp rs0 hxr hx
  go_enter Tryd.func15, Tryd.ntmps15
  go_wp2_with fail
  refine (HSP.out _).mono ?_
  rintro e w1 ⟨g, c, rfl, hg1, hg2, hcl, hb1⟩
  have d0 : ∀ o, (w1.alloc o).cell? ⟨g, 0, none⟩ = some (.string x) := (fun o => keep_cell ((Below.refl _ _).alloc (Nat.le_refl _) o) (hcl 0 x (by rw [HXR.out]; rfl)))
  have d1 : (w1.alloc (.cells #[.int .i64 2, .int .i64 0, .string ⟨#[]⟩, .string ⟨#[]⟩, .bool false] 23)).cell? ⟨g, 1, none⟩ = some (.string a) := keep_cell ((Below.refl _ _).alloc (Nat.le_refl _) _) (hcl 1 a (by rw [HXR.out]; rfl))
  have d2 : (w1.alloc (.cells #[.int .i64 2, .int .i64 0, .string ⟨#[]⟩, .string ⟨#[]⟩, .bool false] 23)).cell? ⟨g, 2, none⟩ = some (.string b) := keep_cell ((Below.refl _ _).alloc (Nat.le_refl _) _) (hcl 2 b (by rw [HXR.out]; rfl))
  have w1b : w.heap.size + 1 ≤ w1.heap.size := by have := hb1.size; simp at this; omega
  have hn : XAt w.heap.size 0 0 ⟨#[]⟩ ⟨#[]⟩ false (w1.alloc (.cells #[.int .i64 2, .int .i64 0, .string ⟨#[]⟩, .string ⟨#[]⟩, .bool false] 23)) := (Below.heap_alloc _ _ _ (by omega)).trans ((hb1.block _ (by simp)).trans HR0.out)
  have hx : XAt w1.heap.size 2 0 ⟨#[]⟩ ⟨#[]⟩ false (w1.alloc (.cells #[.int .i64 2, .int .i64 0, .string ⟨#[]⟩, .string ⟨#[]⟩, .bool false] 23)) := heap_alloc_new _ _
  have hb : Below w.heap.size w (w1.alloc (.cells #[.int .i64 2, .int .i64 0, .string ⟨#[]⟩, .string ⟨#[]⟩, .bool false] 23)) := (((Below.refl _ w).alloc (Nat.le_refl _) _).trans (hb1.mono (by simp))).alloc (by omega) _
  have HNE : Hid (w.heap.size ≠ w1.heap.size) := Lib.hid (by omega)
  have HG : Hid (g ≠ w1.heap.size) := Lib.hid (by omega)
  have HLE : Hid (w.heap.size ≤ w1.heap.size) := Lib.hid (by omega)
  have HN := Lib.hid hn; have HX := Lib.hid hx; have HB := Lib.hid hb
  have c0 := opc0 hn; have c1 := opc1 hn; have c2 := opc2 hn; have c3 := opc3 hn; have c4 := opc4 hn; have cf := opf hn
  clear hn hx hb hg1 hg2 hcl hb1 HR0 w1b
  have HW := Lib.hid hw; clear hw
  go_wp2_with fail
  refine (rnum_any a _).mono ?_
  rintro e w2 ⟨rfl, hb2⟩
  have x2 : XAt w1.heap.size 2 0 ⟨#[]⟩ ⟨#[]⟩ false w2 := keepX hb2 HX.out
  have n2 : XAt w.heap.size 0 0 ⟨#[]⟩ ⟨#[]⟩ false w2 := keepX hb2 HN.out
  have b2 : Below w.heap.size w w2 := HB.out.trans (hb2.mono HB.out.size)
  generalize numS a.data.toList = v at *
  have l3 := fun v => sets_cell w1.heap.size 1 v HG.out (keep_cell hb2 d2)
  have y20 := opc0 x2; have y21 := opc1 x2; have y22 := opc2 x2; have y23 := opc3 x2; have y24 := opc4 x2; have y2f := opf x2
  have X2 := Lib.hid (xset1 x2 v); have N2 := Lib.hid (xoth HNE.out n2 1 (.int .i64 v)); have B2 := Lib.hid (b2.setCell (p := ⟨w1.heap.size, 1, none⟩) HLE.out (.int .i64 v))
  clear hb2 x2 n2 b2
  go_wp2_with fail
  refine (runw_any b _ sb).mono ?_
  rintro e w3 ⟨rfl, hb3⟩
  rw [HW.out]
  have x3 : XAt w1.heap.size 2 v ⟨#[]⟩ ⟨#[]⟩ false w3 := keepX hb3 X2.out
  have n3 : XAt w.heap.size 0 0 ⟨#[]⟩ ⟨#[]⟩ false w3 := keepX hb3 N2.out
  have b3 : Below w.heap.size w w3 := B2.out.trans (hb3.mono B2.out.size)
  have y30 := opc0 x3; have y31 := opc1 x3; have y32 := opc2 x3; have y33 := opc3 x3; have y34 := opc4 x3; have y3f := opf x3
  have n30 := opc0 n3; have n31 := opc1 n3; have n32 := opc2 n3; have n33 := opc3 n3; have n34 := opc4 n3; have n3f := opf n3
  have b4 := b3.setCell (p := ⟨w1.heap.size, 2, none⟩) HLE.out (.string (unwT b))
  clear hb3 x3 n3
  have hne1 := HNE.out; have hne2 := HNE.out.symm
  go_wp2_with fail
  refine bodyPost_ret (v := refParseV s) ?_ rfl ⟨rfl, ?_⟩
  · rw [HV.out]
    simp [results, Tryd.results15, go_sem, n30, n31, n32, n33, n34, opZ]
  · exact (((((b4).setCell (Nat.le_refl _) _).setCell (Nat.le_refl _) _).setCell (Nat.le_refl _) _).setCell (Nat.le_refl _) _).setCell (Nat.le_refl _) _
set_option maxHeartbeats 600000 in
set_option maxRecDepth 100000 in
theorem rp_kUnsub_falsetrue (s x : ByteArray) (a b : ByteArray) (w : World) (hs : s.size ≤ 1000) (hxr : words s = [x, a, b]) (hx : x = kUnsub) (hu : decide (0 ≤ numS a.data.toList) = false) (hw : unwO b = true) (sb : b.size ≤ 100000) :
    Calls Tryd.prog 15 #[.string s] w fun e w' => e = .returned (refParseV s) ∧ Below w.heap.size w w' := by
  have hv : refParseV s = .tuple #[opZ, .int .i64 10] := by
    unfold refParseV; rw [hxr, hx]
    have e1 : kindOK kUnsub = true := by decide
    have e2 : kindK kUnsub = 2 := by decide
    have e3 : kindKeep kUnsub = false := by decide
    have hu' := of_decide_eq_false hu
    have e4 : refR 2 [a, b] = none := by unfold refR; simp only [show ((2 : Int) = 3) = False from by simp, show ((2 : Int) < 3) = True from by simp, if_false, if_true]; rw [if_neg (fun h => hu' h.2)]
    simp only [e1, e2, e4, Bool.true_eq_false, if_false]
  have q0 : (x.toList == ([115, 117, 98] : Bs)) = false := by rw [tl_eq]; exact decide_eq_false (by rw [hx]; decide)
  have q1 : (x.toList == ([117, 110, 115, 117, 98] : Bs)) = true := by rw [tl_eq]; exact decide_eq_true hx
  have HV := Lib.hid hv
  have hsp : ∀ w, Calls Tryd.prog 40 #[.string s] w fun e w' => ∃ g c, e = .returned (.slice (some ⟨g, 0, none⟩) 3 c) ∧ w.heap.size ≤ g ∧ g < w'.heap.size ∧ (∀ j x, (words s)[j]? = some x → w'.cell? ⟨g, j, none⟩ = some (.string x)) ∧ Below w.heap.size w w' := by
    intro w; have h := rsplit_any s w (by omega); have e : (words s).length = 3 := by rw [hxr]; rfl
    rw [e] at h; exact h
  have HSP := Lib.hid hsp
  have HXR := Lib.hid hxr
  have rs0 : XAt w.heap.size 0 0 ⟨#[]⟩ ⟨#[]⟩ false (w.alloc (.cells #[.int .i64 0, .int .i64 0, .string ⟨#[]⟩, .string ⟨#[]⟩, .bool false] 23)) := heap_alloc_new _ _
  have HR0 := Lib.hid rs0
  clear hv hsp rs0 hxr hx
  go_enter Tryd.func15, Tryd.ntmps15
  go_wp2_with fail
  refine (HSP.out _).mono ?_
  rintro e w1 ⟨g, c, rfl, hg1, hg2, hcl, hb1⟩
  have d0 : ∀ o, (w1.alloc o).cell? ⟨g, 0, none⟩ = some (.string x) := (fun o => keep_cell ((Below.refl _ _).alloc (Nat.le_refl _) o) (hcl 0 x (by rw [HXR.out]; rfl)))
  have d1 : (w1.alloc (.cells #[.int .i64 2, .int .i64 0, .string ⟨#[]⟩, .string ⟨#[]⟩, .bool false] 23)).cell? ⟨g, 1, none⟩ = some (.string a) := keep_cell ((Below.refl _ _).alloc (Nat.le_refl _) _) (hcl 1 a (by rw [HXR.out]; rfl))
  have d2 : (w1.alloc (.cells #[.int .i64 2, .int .i64 0, .string ⟨#[]⟩, .string ⟨#[]⟩, .bool false] 23)).cell? ⟨g, 2, none⟩ = some (.string b) := keep_cell ((Below.refl _ _).alloc (Nat.le_refl _) _) (hcl 2 b (by rw [HXR.out]; rfl))
  have w1b : w.heap.size + 1 ≤ w1.heap.size := by have := hb1.size; simp at this; omega
  have hn : XAt w.heap.size 0 0 ⟨#[]⟩ ⟨#[]⟩ false (w1.alloc (.cells #[.int .i64 2, .int .i64 0, .string ⟨#[]⟩, .string ⟨#[]⟩, .bool false] 23)) := (Below.heap_alloc _ _ _ (by omega)).trans ((hb1.block _ (by simp)).trans HR0.out)
  have hx : XAt w1.heap.size 2 0 ⟨#[]⟩ ⟨#[]⟩ false (w1.alloc (.cells #[.int .i64 2, .int .i64 0, .string ⟨#[]⟩, .string ⟨#[]⟩, .bool false] 23)) := heap_alloc_new _ _
  have hb : Below w.heap.size w (w1.alloc (.cells #[.int .i64 2, .int .i64 0, .string ⟨#[]⟩, .string ⟨#[]⟩, .bool false] 23)) := (((Below.refl _ w).alloc (Nat.le_refl _) _).trans (hb1.mono (by simp))).alloc (by omega) _
  have HNE : Hid (w.heap.size ≠ w1.heap.size) := Lib.hid (by omega)
  have HG : Hid (g ≠ w1.heap.size) := Lib.hid (by omega)
  have HLE : Hid (w.heap.size ≤ w1.heap.size) := Lib.hid (by omega)
  have HN := Lib.hid hn; have HX := Lib.hid hx; have HB := Lib.hid hb
  have c0 := opc0 hn; have c1 := opc1 hn; have c2 := opc2 hn; have c3 := opc3 hn; have c4 := opc4 hn; have cf := opf hn
  clear hn hx hb hg1 hg2 hcl hb1 HR0 w1b
  have HW := Lib.hid hw; clear hw
  go_wp2_with fail
  refine (rnum_any a _).mono ?_
  rintro e w2 ⟨rfl, hb2⟩
  have x2 : XAt w1.heap.size 2 0 ⟨#[]⟩ ⟨#[]⟩ false w2 := keepX hb2 HX.out
  have n2 : XAt w.heap.size 0 0 ⟨#[]⟩ ⟨#[]⟩ false w2 := keepX hb2 HN.out
  have b2 : Below w.heap.size w w2 := HB.out.trans (hb2.mono HB.out.size)
  generalize numS a.data.toList = v at *
  have l3 := fun v => sets_cell w1.heap.size 1 v HG.out (keep_cell hb2 d2)
  have y20 := opc0 x2; have y21 := opc1 x2; have y22 := opc2 x2; have y23 := opc3 x2; have y24 := opc4 x2; have y2f := opf x2
  have X2 := Lib.hid (xset1 x2 v); have N2 := Lib.hid (xoth HNE.out n2 1 (.int .i64 v)); have B2 := Lib.hid (b2.setCell (p := ⟨w1.heap.size, 1, none⟩) HLE.out (.int .i64 v))
  clear hb2 x2 n2 b2
  go_wp2_with fail
  refine (runw_any b _ sb).mono ?_
  rintro e w3 ⟨rfl, hb3⟩
  rw [HW.out]
  have x3 : XAt w1.heap.size 2 v ⟨#[]⟩ ⟨#[]⟩ false w3 := keepX hb3 X2.out
  have n3 : XAt w.heap.size 0 0 ⟨#[]⟩ ⟨#[]⟩ false w3 := keepX hb3 N2.out
  have b3 : Below w.heap.size w w3 := B2.out.trans (hb3.mono B2.out.size)
  have y30 := opc0 x3; have y31 := opc1 x3; have y32 := opc2 x3; have y33 := opc3 x3; have y34 := opc4 x3; have y3f := opf x3
  have n30 := opc0 n3; have n31 := opc1 n3; have n32 := opc2 n3; have n33 := opc3 n3; have n34 := opc4 n3; have n3f := opf n3
  have b4 := b3.setCell (p := ⟨w1.heap.size, 2, none⟩) HLE.out (.string (unwT b))
  clear hb3 x3 n3
  have hne1 := HNE.out; have hne2 := HNE.out.symm
  go_wp2_with fail
  refine bodyPost_ret (v := refParseV s) ?_ rfl ⟨rfl, ?_⟩
  · rw [HV.out]
    simp [results, Tryd.results15, go_sem, n30, n31, n32, n33, n34, opZ]
  · exact (((((b4).setCell (Nat.le_refl _) _).setCell (Nat.le_refl _) _).setCell (Nat.le_refl _) _).setCell (Nat.le_refl _) _).setCell (Nat.le_refl _) _
set_option maxHeartbeats 600000 in
set_option maxRecDepth 100000 in
theorem rp_kUnsub_falsefalse (s x : ByteArray) (a b : ByteArray) (w : World) (hs : s.size ≤ 1000) (hxr : words s = [x, a, b]) (hx : x = kUnsub) (hu : decide (0 ≤ numS a.data.toList) = false) (hw : unwO b = false) (sb : b.size ≤ 100000) :
    Calls Tryd.prog 15 #[.string s] w fun e w' => e = .returned (refParseV s) ∧ Below w.heap.size w w' := by
  have hv : refParseV s = .tuple #[opZ, .int .i64 10] := by
    unfold refParseV; rw [hxr, hx]
    have e1 : kindOK kUnsub = true := by decide
    have e2 : kindK kUnsub = 2 := by decide
    have e3 : kindKeep kUnsub = false := by decide
    have hu' := of_decide_eq_false hu
    have e4 : refR 2 [a, b] = none := by unfold refR; simp only [show ((2 : Int) = 3) = False from by simp, show ((2 : Int) < 3) = True from by simp, if_false, if_true]; rw [if_neg (fun h => hu' h.2)]
    simp only [e1, e2, e4, Bool.true_eq_false, if_false]
  have q0 : (x.toList == ([115, 117, 98] : Bs)) = false := by rw [tl_eq]; exact decide_eq_false (by rw [hx]; decide)
  have q1 : (x.toList == ([117, 110, 115, 117, 98] : Bs)) = true := by rw [tl_eq]; exact decide_eq_true hx
  have HV := Lib.hid hv
  have hsp : ∀ w, Calls Tryd.prog 40 #[.string s] w fun e w' => ∃ g c, e = .returned (.slice (some ⟨g, 0, none⟩) 3 c) ∧ w.heap.size ≤ g ∧ g < w'.heap.size ∧ (∀ j x, (words s)[j]? = some x → w'.cell? ⟨g, j, none⟩ = some (.string x)) ∧ Below w.heap.size w w' := by
    intro w; have h := rsplit_any s w (by omega); have e : (words s).length = 3 := by rw [hxr]; rfl
    rw [e] at h; exact h
  have HSP := Lib.hid hsp
  have HXR := Lib.hid hxr
  have rs0 : XAt w.heap.size 0 0 ⟨#[]⟩ ⟨#[]⟩ false (w.alloc (.cells #[.int .i64 0, .int .i64 0, .string ⟨#[]⟩, .string ⟨#[]⟩, .bool false] 23)) := heap_alloc_new _ _
  have HR0 := Lib.hid rs0
  clear hv hsp rs0 hxr hx
  go_enter Tryd.func15, Tryd.ntmps15
  go_wp2_with fail
  refine (HSP.out _).mono ?_
  rintro e w1 ⟨g, c, rfl, hg1, hg2, hcl, hb1⟩
  have d0 : ∀ o, (w1.alloc o).cell? ⟨g, 0, none⟩ = some (.string x) := (fun o => keep_cell ((Below.refl _ _).alloc (Nat.le_refl _) o) (hcl 0 x (by rw [HXR.out]; rfl)))
  have d1 : (w1.alloc (.cells #[.int .i64 2, .int .i64 0, .string ⟨#[]⟩, .string ⟨#[]⟩, .bool false] 23)).cell? ⟨g, 1, none⟩ = some (.string a) := keep_cell ((Below.refl _ _).alloc (Nat.le_refl _) _) (hcl 1 a (by rw [HXR.out]; rfl))
  have d2 : (w1.alloc (.cells #[.int .i64 2, .int .i64 0, .string ⟨#[]⟩, .string ⟨#[]⟩, .bool false] 23)).cell? ⟨g, 2, none⟩ = some (.string b) := keep_cell ((Below.refl _ _).alloc (Nat.le_refl _) _) (hcl 2 b (by rw [HXR.out]; rfl))
  have w1b : w.heap.size + 1 ≤ w1.heap.size := by have := hb1.size; simp at this; omega
  have hn : XAt w.heap.size 0 0 ⟨#[]⟩ ⟨#[]⟩ false (w1.alloc (.cells #[.int .i64 2, .int .i64 0, .string ⟨#[]⟩, .string ⟨#[]⟩, .bool false] 23)) := (Below.heap_alloc _ _ _ (by omega)).trans ((hb1.block _ (by simp)).trans HR0.out)
  have hx : XAt w1.heap.size 2 0 ⟨#[]⟩ ⟨#[]⟩ false (w1.alloc (.cells #[.int .i64 2, .int .i64 0, .string ⟨#[]⟩, .string ⟨#[]⟩, .bool false] 23)) := heap_alloc_new _ _
  have hb : Below w.heap.size w (w1.alloc (.cells #[.int .i64 2, .int .i64 0, .string ⟨#[]⟩, .string ⟨#[]⟩, .bool false] 23)) := (((Below.refl _ w).alloc (Nat.le_refl _) _).trans (hb1.mono (by simp))).alloc (by omega) _
  have HNE : Hid (w.heap.size ≠ w1.heap.size) := Lib.hid (by omega)
  have HG : Hid (g ≠ w1.heap.size) := Lib.hid (by omega)
  have HLE : Hid (w.heap.size ≤ w1.heap.size) := Lib.hid (by omega)
  have HN := Lib.hid hn; have HX := Lib.hid hx; have HB := Lib.hid hb
  have c0 := opc0 hn; have c1 := opc1 hn; have c2 := opc2 hn; have c3 := opc3 hn; have c4 := opc4 hn; have cf := opf hn
  clear hn hx hb hg1 hg2 hcl hb1 HR0 w1b
  have HW := Lib.hid hw; clear hw
  go_wp2_with fail
  refine (rnum_any a _).mono ?_
  rintro e w2 ⟨rfl, hb2⟩
  have x2 : XAt w1.heap.size 2 0 ⟨#[]⟩ ⟨#[]⟩ false w2 := keepX hb2 HX.out
  have n2 : XAt w.heap.size 0 0 ⟨#[]⟩ ⟨#[]⟩ false w2 := keepX hb2 HN.out
  have b2 : Below w.heap.size w w2 := HB.out.trans (hb2.mono HB.out.size)
  generalize numS a.data.toList = v at *
  have l3 := fun v => sets_cell w1.heap.size 1 v HG.out (keep_cell hb2 d2)
  have y20 := opc0 x2; have y21 := opc1 x2; have y22 := opc2 x2; have y23 := opc3 x2; have y24 := opc4 x2; have y2f := opf x2
  have X2 := Lib.hid (xset1 x2 v); have N2 := Lib.hid (xoth HNE.out n2 1 (.int .i64 v)); have B2 := Lib.hid (b2.setCell (p := ⟨w1.heap.size, 1, none⟩) HLE.out (.int .i64 v))
  clear hb2 x2 n2 b2
  go_wp2_with fail
  refine (runw_any b _ sb).mono ?_
  rintro e w3 ⟨rfl, hb3⟩
  rw [HW.out]
  have x3 : XAt w1.heap.size 2 v ⟨#[]⟩ ⟨#[]⟩ false w3 := keepX hb3 X2.out
  have n3 : XAt w.heap.size 0 0 ⟨#[]⟩ ⟨#[]⟩ false w3 := keepX hb3 N2.out
  have b3 : Below w.heap.size w w3 := B2.out.trans (hb3.mono B2.out.size)
  have y30 := opc0 x3; have y31 := opc1 x3; have y32 := opc2 x3; have y33 := opc3 x3; have y34 := opc4 x3; have y3f := opf x3
  have n30 := opc0 n3; have n31 := opc1 n3; have n32 := opc2 n3; have n33 := opc3 n3; have n34 := opc4 n3; have n3f := opf n3
  have b4 := b3.setCell (p := ⟨w1.heap.size, 2, none⟩) HLE.out (.string (unwT b))
  clear hb3 x3 n3
  have hne1 := HNE.out; have hne2 := HNE.out.symm
  go_wp2_with fail
  refine bodyPost_ret (v := refParseV s) ?_ rfl ⟨rfl, ?_⟩
  · rw [HV.out]
    simp [results, Tryd.results15, go_sem, n30, n31, n32, n33, n34, opZ]
  · exact (((((b4).setCell (Nat.le_refl _) _).setCell (Nat.le_refl _) _).setCell (Nat.le_refl _) _).setCell (Nat.le_refl _) _).setCell (Nat.le_refl _) _
end Go.Proofs.YtodiohoiekkodaaDoor.Op
end

section
set_option linter.unusedVariables false
namespace Go.Proofs.YtodiohoiekkodaaDoor.Op
open Go.RowKit Go.Proofs.YtodiohoiekkodaaDoor.Bd Go.Proofs.YtodiohoiekkodaaDoor.Sp Go.Proofs.YtodiohoiekkodaaDoor.Rf

theorem ne_beq {L m : Nat} (h : L ≠ m) : ((L : Int) == (m : Int)) = false := beq_eq_false_iff_ne.2 (by omega)
theorem dec_cases (p : Prop) [Decidable p] : decide p = true ∨ decide p = false := by cases decide p <;> simp

theorem rparse_any (s : ByteArray) (w : World) (hs : s.size ≤ 1000) :
    Calls Tryd.prog 15 #[.string s] w fun e w' => e = .returned (refParseV s) ∧ Below w.heap.size w w' := by
  obtain ⟨x, r, hxr⟩ : ∃ x r, words s = x :: r := by
    cases h : words s with
    | nil => have := words_length s; rw [h] at this; simp at this
    | cons x r => exact ⟨x, r, rfl⟩
  have hsz : ∀ y ∈ r, y.size ≤ 100000 := fun y hy => Nat.le_trans (words_size s y (by rw [hxr]; simp [hy])) (by omega)
  have l3 : ∀ {K : ByteArray}, x = K → r.length + 1 = 3 → ∃ a b, r = [a, b] ∧ a.size ≤ 100000 ∧ b.size ≤ 100000 := by
    intro K _ hl
    match r, hl, hsz with
    | [a, b], _, hsz => exact ⟨a, b, rfl, hsz a (by simp), hsz b (by simp)⟩
  have l2 : ∀ {K : ByteArray}, x = K → r.length + 1 = 2 → ∃ a, r = [a] := by
    intro K _ hl
    match r, hl with
    | [a], _ => exact ⟨a, rfl⟩
  by_cases h0 : x = kSub
  · by_cases hl : r.length + 1 = 3
    · obtain ⟨a, b, rfl, ha, hb⟩ := l3 h0 hl
      rcases dec_cases (0 ≤ numS a.data.toList) with hu | hu <;> cases hw : unwO b
      · exact rp_kSub_truefalse s x a b w hs hxr h0 hu hw hb
      · exact rp_kSub_truetrue s x a b w hs hxr h0 hu hw hb
      · exact rp_kSub_falsefalse s x a b w hs hxr h0 hu hw hb
      · exact rp_kSub_falsetrue s x a b w hs hxr h0 hu hw hb
    · exact rp_len_kSub s x r w hs hxr h0 _ rfl (ne_beq hl)
  by_cases h1 : x = kUnsub
  · by_cases hl : r.length + 1 = 3
    · obtain ⟨a, b, rfl, ha, hb⟩ := l3 h1 hl
      rcases dec_cases (0 ≤ numS a.data.toList) with hu | hu <;> cases hw : unwO b
      · exact rp_kUnsub_truefalse s x a b w hs hxr h1 hu hw hb
      · exact rp_kUnsub_truetrue s x a b w hs hxr h1 hu hw hb
      · exact rp_kUnsub_falsefalse s x a b w hs hxr h1 hu hw hb
      · exact rp_kUnsub_falsetrue s x a b w hs hxr h1 hu hw hb
    · exact rp_len_kUnsub s x r w hs hxr h1 _ rfl (ne_beq hl)
  by_cases h2 : x = kPub
  · by_cases hl : r.length + 1 = 3
    · obtain ⟨a, b, rfl, ha, hb⟩ := l3 h2 hl
      cases hu : unwO a <;> cases hw : unwO b
      · exact rp_kPub_falsefalse s x a b w hs hxr h2 hu hw ha hb
      · exact rp_kPub_falsetrue s x a b w hs hxr h2 hu hw ha hb
      · exact rp_kPub_truefalse s x a b w hs hxr h2 hu hw ha hb
      · exact rp_kPub_truetrue s x a b w hs hxr h2 hu hw ha hb
    · exact rp_len_kPub s x r w hs hxr h2 _ rfl (ne_beq hl)
  by_cases h3 : x = kKeep
  · by_cases hl : r.length + 1 = 3
    · obtain ⟨a, b, rfl, ha, hb⟩ := l3 h3 hl
      cases hu : unwO a <;> cases hw : unwO b
      · exact rp_kKeep_falsefalse s x a b w hs hxr h3 hu hw ha hb
      · exact rp_kKeep_falsetrue s x a b w hs hxr h3 hu hw ha hb
      · exact rp_kKeep_truefalse s x a b w hs hxr h3 hu hw ha hb
      · exact rp_kKeep_truetrue s x a b w hs hxr h3 hu hw ha hb
    · exact rp_len_kKeep s x r w hs hxr h3 _ rfl (ne_beq hl)
  by_cases h4 : x = kPoll
  · by_cases hl : r.length + 1 = 2
    · obtain ⟨a, rfl⟩ := l2 h4 hl
      rcases dec_cases (0 ≤ numS a.data.toList) with hu | hu
      · exact rp_kPoll_true s x a w hs hxr h4 hu
      · exact rp_kPoll_false s x a w hs hxr h4 hu
    · exact rp_len_kPoll s x r w hs hxr h4 _ rfl (ne_beq hl)
  by_cases h5 : x = kDrops
  · by_cases hl : r.length + 1 = 2
    · obtain ⟨a, rfl⟩ := l2 h5 hl
      rcases dec_cases (0 ≤ numS a.data.toList) with hu | hu
      · exact rp_kDrops_true s x a w hs hxr h5 hu
      · exact rp_kDrops_false s x a w hs hxr h5 hu
    · exact rp_len_kDrops s x r w hs hxr h5 _ rfl (ne_beq hl)
  exact rp_none s x r w hs hxr _ rfl h0 h1 h2 h3 h4 h5 (by omega)
end Go.Proofs.YtodiohoiekkodaaDoor.Op
end
