/- Arguments' cells as records. -/
import Derived.Test.YtflpgdlgfffigaaGreatCoreB
import Derived.Test.YtflpgdlgfffigaaGreatCTypes
import Derived.Test.YtflpgdlgfffigaaGreatRows
set_option linter.unusedVariables false
set_option linter.unusedSimpArgs false
namespace Go.Proofs.YtflpgdlgfffigaaGreat
open Go Go.Abs
theorem co_69 : Tryz.prog.cellsOf 69 = 1 := by kernel_rfl
theorem co_215 : Tryz.prog.cellsOf 215 = 1 := by kernel_rfl
theorem co_71 : Tryz.prog.cellsOf 71 = 1 := by kernel_rfl
theorem co_70 : Tryz.prog.cellsOf 70 = 1 := by kernel_rfl
theorem co_74 : Tryz.prog.cellsOf 74 = 1 := by kernel_rfl
theorem co_78 : Tryz.prog.cellsOf 78 = 1 := by kernel_rfl
theorem co_68 : Tryz.prog.cellsOf 68 = 1 := by kernel_rfl
theorem co_76 : Tryz.prog.cellsOf 76 = 1 := by kernel_rfl
theorem co_75 : Tryz.prog.cellsOf 75 = 1 := by kernel_rfl
theorem co_77 : Tryz.prog.cellsOf 77 = 1 := by kernel_rfl
theorem co_23 : Tryz.prog.cellsOf 23 = 1 := by kernel_rfl
theorem co_73 : Tryz.prog.cellsOf 73 = 1 := by kernel_rfl
theorem co_72 : Tryz.prog.cellsOf 72 = 1 := by kernel_rfl
theorem co_118 : Tryz.prog.cellsOf 118 = 7 := by kernel_rfl
theorem co_219 : Tryz.prog.cellsOf 219 = 3 := by kernel_rfl
theorem co_121 : Tryz.prog.cellsOf 121 = 4 := by kernel_rfl
theorem co_80 : Tryz.prog.cellsOf 80 = 19 := by kernel_rfl
theorem co_67 : Tryz.prog.cellsOf 67 = 6 := by kernel_rfl
theorem co_235 : Tryz.prog.cellsOf 235 = 3 := by kernel_rfl
theorem co_245 : Tryz.prog.cellsOf 245 = 5 := by kernel_rfl
theorem co_185 : Tryz.prog.cellsOf 185 = 4 := by kernel_rfl
theorem co_217 : Tryz.prog.cellsOf 217 = 6 := by kernel_rfl
theorem co_238 : Tryz.prog.cellsOf 238 = 4 := by kernel_rfl
theorem co_242 : Tryz.prog.cellsOf 242 = 3 := by kernel_rfl
theorem co_4 : Tryz.prog.cellsOf 4 = 1 := by kernel_rfl
theorem co_3 : Tryz.prog.cellsOf 3 = 1 := by kernel_rfl
theorem co_9 : Tryz.prog.cellsOf 9 = 1 := by kernel_rfl
theorem co_5 : Tryz.prog.cellsOf 5 = 1 := by kernel_rfl
theorem fit_strs {n : Nat} {cs : List Dat} (h : FitsN Tryz.prog n 73 cs) : ∃ zs : List Str, cs = [.sl (zs.map .str)] ∧ Short zs ∧ ∀ a ∈ zs, ShortS a := fits_sc .str ShortS Tryz.underlying73 (by kernel_rfl) (fun zs h => fits_str Tryz.underlying9 h) h
theorem fit_ints {n : Nat} {cs : List Dat} (h : FitsN Tryz.prog n 23 cs) : ∃ zs : List Int, cs = [.sl (zs.map (.int .i64))] ∧ Short zs ∧ ∀ a ∈ zs, I64 a := fits_sc (.int .i64) I64 Tryz.underlying23 (by kernel_rfl) (fun zs h => fits_i64 Tryz.underlying3 h) h
theorem fit_bytes {n : Nat} {cs : List Dat} (h : FitsN Tryz.prog n 72 cs) : ∃ zs : List Int, cs = [.sl (zs.map (.int .u8))] ∧ Short zs ∧ ∀ b ∈ zs, 0 ≤ b ∧ b ≤ 255 := fits_sc (.int .u8) (fun b => 0 ≤ b ∧ b ≤ 255) Tryz.underlying72 (by kernel_rfl) (fun zs h => fits_u8 Tryz.underlying5 h) h
theorem fit_Segment {n : Nat} (cs : List Dat) (h : FitsN Tryz.prog n 185 cs) : ∃ a : Segment, Dat.agg cs = a.enc ∧ a.WF := by
  obtain ⟨hl, h⟩ := fits_struct Tryz.underlying185 co_185 h
  rcases cs with _ | ⟨c0, _ | ⟨c1, _ | ⟨c2, _ | ⟨c3, _ | ⟨z, zs⟩⟩⟩⟩⟩ <;> simp at hl
  simp [co_69, co_215, co_71, co_70, co_74, co_78, co_68, co_76, co_75, co_77, co_23, co_73, co_72, co_118, co_219, co_121, co_80, co_67, co_235, co_245, co_185, co_217, co_238, co_242, co_4, co_3, co_9, co_5] at h
  obtain ⟨h0, h1, h2, h3⟩ := h
  obtain ⟨x0, e0, w0⟩ := fits_i64 Tryz.underlying3 h0
  obtain ⟨x1, e1, w1⟩ := fits_i64 Tryz.underlying3 h1
  obtain ⟨x2, e2, w2⟩ := fits_i64 Tryz.underlying3 h2
  obtain ⟨x3, e3, w3, u3⟩ := fit_bytes h3
  simp at e0 e1 e2 e3
  subst e0 e1 e2 e3
  exact ⟨⟨x0, x1, x2, x3⟩, rfl, w0, w1, w2, w3, u3⟩
theorem fit_Export {n : Nat} (cs : List Dat) (h : FitsN Tryz.prog n 118 cs) : ∃ a : Export, Dat.agg cs = a.enc ∧ a.WF := by
  obtain ⟨hl, h⟩ := fits_struct Tryz.underlying118 co_118 h
  rcases cs with _ | ⟨c0, _ | ⟨c1, _ | ⟨c2, _ | ⟨c3, _ | ⟨c4, _ | ⟨c5, _ | ⟨c6, _ | ⟨z, zs⟩⟩⟩⟩⟩⟩⟩⟩ <;> simp at hl
  simp [co_69, co_215, co_71, co_70, co_74, co_78, co_68, co_76, co_75, co_77, co_23, co_73, co_72, co_118, co_219, co_121, co_80, co_67, co_235, co_245, co_185, co_217, co_238, co_242, co_4, co_3, co_9, co_5] at h
  obtain ⟨h0, h1, h2, h3, h4, h5, h6⟩ := h
  obtain ⟨x0, e0, w0⟩ := fits_str Tryz.underlying9 h0
  obtain ⟨x1, e1, w1⟩ := fits_str Tryz.underlying9 h1
  obtain ⟨x2, e2⟩ := fits_bool Tryz.underlying4 h2
  obtain ⟨x3, e3⟩ := fits_bool Tryz.underlying4 h3
  obtain ⟨x4, e4⟩ := fits_bool Tryz.underlying4 h4
  obtain ⟨x5, e5, w5⟩ := fits_i64 Tryz.underlying3 h5
  obtain ⟨x6, e6, w6⟩ := fits_i64 Tryz.underlying3 h6
  simp at e0 e1 e2 e3 e4 e5 e6
  subst e0 e1 e2 e3 e4 e5 e6
  exact ⟨⟨x0, x1, x2, x3, x4, x5, x6⟩, rfl, w0, w1, w5, w6⟩
theorem fit_Import {n : Nat} (cs : List Dat) (h : FitsN Tryz.prog n 67 cs) : ∃ a : Import, Dat.agg cs = a.enc ∧ a.WF := by
  obtain ⟨hl, h⟩ := fits_struct Tryz.underlying67 co_67 h
  rcases cs with _ | ⟨c0, _ | ⟨c1, _ | ⟨c2, _ | ⟨c3, _ | ⟨c4, _ | ⟨c5, _ | ⟨z, zs⟩⟩⟩⟩⟩⟩⟩ <;> simp at hl
  simp [co_69, co_215, co_71, co_70, co_74, co_78, co_68, co_76, co_75, co_77, co_23, co_73, co_72, co_118, co_219, co_121, co_80, co_67, co_235, co_245, co_185, co_217, co_238, co_242, co_4, co_3, co_9, co_5] at h
  obtain ⟨h0, h1, h2, h3, h4, h5⟩ := h
  obtain ⟨x0, e0, w0⟩ := fits_str Tryz.underlying9 h0
  obtain ⟨x1, e1, w1⟩ := fits_str Tryz.underlying9 h1
  obtain ⟨x2, e2⟩ := fits_bool Tryz.underlying4 h2
  obtain ⟨x3, e3, w3⟩ := fits_i64 Tryz.underlying3 h3
  obtain ⟨x4, e4, w4⟩ := fits_i64 Tryz.underlying3 h4
  obtain ⟨x5, e5, w5⟩ := fits_i64 Tryz.underlying3 h5
  simp at e0 e1 e2 e3 e4 e5
  subst e0 e1 e2 e3 e4 e5
  exact ⟨⟨x0, x1, x2, x3, x4, x5⟩, rfl, w0, w1, w3, w4, w5⟩
theorem fit_Fixup {n : Nat} (cs : List Dat) (h : FitsN Tryz.prog n 121 cs) : ∃ a : Fixup, Dat.agg cs = a.enc ∧ a.WF := by
  obtain ⟨hl, h⟩ := fits_struct Tryz.underlying121 co_121 h
  rcases cs with _ | ⟨c0, _ | ⟨c1, _ | ⟨c2, _ | ⟨c3, _ | ⟨z, zs⟩⟩⟩⟩⟩ <;> simp at hl
  simp [co_69, co_215, co_71, co_70, co_74, co_78, co_68, co_76, co_75, co_77, co_23, co_73, co_72, co_118, co_219, co_121, co_80, co_67, co_235, co_245, co_185, co_217, co_238, co_242, co_4, co_3, co_9, co_5] at h
  obtain ⟨h0, h1, h2, h3⟩ := h
  obtain ⟨x0, e0, w0⟩ := fits_i64 Tryz.underlying3 h0
  obtain ⟨x1, e1, w1⟩ := fits_i64 Tryz.underlying3 h1
  obtain ⟨x2, e2, w2⟩ := fits_i64 Tryz.underlying3 h2
  obtain ⟨x3, e3, w3⟩ := fits_i64 Tryz.underlying3 h3
  simp at e0 e1 e2 e3
  subst e0 e1 e2 e3
  exact ⟨⟨x0, x1, x2, x3⟩, rfl, w0, w1, w2, w3⟩
theorem fit_LineRow {n : Nat} (cs : List Dat) (h : FitsN Tryz.prog n 235 cs) : ∃ a : LineRow, Dat.agg cs = a.enc ∧ a.WF := by
  obtain ⟨hl, h⟩ := fits_struct Tryz.underlying235 co_235 h
  rcases cs with _ | ⟨c0, _ | ⟨c1, _ | ⟨c2, _ | ⟨z, zs⟩⟩⟩⟩ <;> simp at hl
  simp [co_69, co_215, co_71, co_70, co_74, co_78, co_68, co_76, co_75, co_77, co_23, co_73, co_72, co_118, co_219, co_121, co_80, co_67, co_235, co_245, co_185, co_217, co_238, co_242, co_4, co_3, co_9, co_5] at h
  obtain ⟨h0, h1, h2⟩ := h
  obtain ⟨x0, e0, w0⟩ := fits_i64 Tryz.underlying3 h0
  obtain ⟨x1, e1, w1⟩ := fits_i64 Tryz.underlying3 h1
  obtain ⟨x2, e2, w2⟩ := fits_i64 Tryz.underlying3 h2
  simp at e0 e1 e2
  subst e0 e1 e2
  exact ⟨⟨x0, x1, x2⟩, rfl, w0, w1, w2⟩
theorem fit_UnwindRow {n : Nat} (cs : List Dat) (h : FitsN Tryz.prog n 238 cs) : ∃ a : UnwindRow, Dat.agg cs = a.enc ∧ a.WF := by
  obtain ⟨hl, h⟩ := fits_struct Tryz.underlying238 co_238 h
  rcases cs with _ | ⟨c0, _ | ⟨c1, _ | ⟨c2, _ | ⟨c3, _ | ⟨z, zs⟩⟩⟩⟩⟩ <;> simp at hl
  simp [co_69, co_215, co_71, co_70, co_74, co_78, co_68, co_76, co_75, co_77, co_23, co_73, co_72, co_118, co_219, co_121, co_80, co_67, co_235, co_245, co_185, co_217, co_238, co_242, co_4, co_3, co_9, co_5] at h
  obtain ⟨h0, h1, h2, h3⟩ := h
  obtain ⟨x0, e0, w0⟩ := fits_i64 Tryz.underlying3 h0
  obtain ⟨x1, e1, w1⟩ := fits_i64 Tryz.underlying3 h1
  obtain ⟨x2, e2, w2⟩ := fits_i64 Tryz.underlying3 h2
  obtain ⟨x3, e3, w3⟩ := fits_i64 Tryz.underlying3 h3
  simp at e0 e1 e2 e3
  subst e0 e1 e2 e3
  exact ⟨⟨x0, x1, x2, x3⟩, rfl, w0, w1, w2, w3⟩
theorem fit_FieldR {n : Nat} (cs : List Dat) (h : FitsN Tryz.prog n 219 cs) : ∃ a : FieldR, Dat.agg cs = a.enc ∧ a.WF := by
  obtain ⟨hl, h⟩ := fits_struct Tryz.underlying219 co_219 h
  rcases cs with _ | ⟨c0, _ | ⟨c1, _ | ⟨c2, _ | ⟨z, zs⟩⟩⟩⟩ <;> simp at hl
  simp [co_69, co_215, co_71, co_70, co_74, co_78, co_68, co_76, co_75, co_77, co_23, co_73, co_72, co_118, co_219, co_121, co_80, co_67, co_235, co_245, co_185, co_217, co_238, co_242, co_4, co_3, co_9, co_5] at h
  obtain ⟨h0, h1, h2⟩ := h
  obtain ⟨x0, e0, w0⟩ := fits_str Tryz.underlying9 h0
  obtain ⟨x1, e1, w1⟩ := fits_i64 Tryz.underlying3 h1
  obtain ⟨x2, e2, w2⟩ := fits_i64 Tryz.underlying3 h2
  simp at e0 e1 e2
  subst e0 e1 e2
  exact ⟨⟨x0, x1, x2⟩, rfl, w0, w1, w2⟩
theorem fit_TypeR {n : Nat} (cs : List Dat) (h : FitsN Tryz.prog n 217 cs) : ∃ a : TypeR, Dat.agg cs = a.enc ∧ a.WF := by
  obtain ⟨hl, h⟩ := fits_struct Tryz.underlying217 co_217 h
  rcases cs with _ | ⟨c0, _ | ⟨c1, _ | ⟨c2, _ | ⟨c3, _ | ⟨c4, _ | ⟨c5, _ | ⟨z, zs⟩⟩⟩⟩⟩⟩⟩ <;> simp at hl
  simp [co_69, co_215, co_71, co_70, co_74, co_78, co_68, co_76, co_75, co_77, co_23, co_73, co_72, co_118, co_219, co_121, co_80, co_67, co_235, co_245, co_185, co_217, co_238, co_242, co_4, co_3, co_9, co_5] at h
  obtain ⟨h0, h1, h2, h3, h4, h5⟩ := h
  obtain ⟨x0, e0, w0⟩ := fits_i64 Tryz.underlying3 h0
  obtain ⟨x1, e1, w1⟩ := fits_str Tryz.underlying9 h1
  obtain ⟨x2, e2, w2⟩ := fits_i64 Tryz.underlying3 h2
  obtain ⟨x3, e3, w3⟩ := fits_i64 Tryz.underlying3 h3
  obtain ⟨x4, e4, w4⟩ := fits_i64 Tryz.underlying3 h4
  obtain ⟨x5, e5, w5, u5⟩ := fits_sl FieldR.enc FieldR.WF Tryz.underlying215 (by kernel_rfl) (fun zs h => fit_FieldR zs h) h5
  simp at e0 e1 e2 e3 e4 e5
  subst e0 e1 e2 e3 e4 e5
  exact ⟨⟨x0, x1, x2, x3, x4, x5⟩, rfl, w0, w1, w2, w3, w4, w5, u5⟩
theorem fit_Variable {n : Nat} (cs : List Dat) (h : FitsN Tryz.prog n 242 cs) : ∃ a : Variable, Dat.agg cs = a.enc ∧ a.WF := by
  obtain ⟨hl, h⟩ := fits_struct Tryz.underlying242 co_242 h
  rcases cs with _ | ⟨c0, _ | ⟨c1, _ | ⟨c2, _ | ⟨z, zs⟩⟩⟩⟩ <;> simp at hl
  simp [co_69, co_215, co_71, co_70, co_74, co_78, co_68, co_76, co_75, co_77, co_23, co_73, co_72, co_118, co_219, co_121, co_80, co_67, co_235, co_245, co_185, co_217, co_238, co_242, co_4, co_3, co_9, co_5] at h
  obtain ⟨h0, h1, h2⟩ := h
  obtain ⟨x0, e0, w0⟩ := fits_str Tryz.underlying9 h0
  obtain ⟨x1, e1, w1⟩ := fits_i64 Tryz.underlying3 h1
  obtain ⟨x2, e2, w2⟩ := fits_i64 Tryz.underlying3 h2
  simp at e0 e1 e2
  subst e0 e1 e2
  exact ⟨⟨x0, x1, x2⟩, rfl, w0, w1, w2⟩
theorem fit_PlaceR {n : Nat} (cs : List Dat) (h : FitsN Tryz.prog n 245 cs) : ∃ a : PlaceR, Dat.agg cs = a.enc ∧ a.WF := by
  obtain ⟨hl, h⟩ := fits_struct Tryz.underlying245 co_245 h
  rcases cs with _ | ⟨c0, _ | ⟨c1, _ | ⟨c2, _ | ⟨c3, _ | ⟨c4, _ | ⟨z, zs⟩⟩⟩⟩⟩⟩ <;> simp at hl
  simp [co_69, co_215, co_71, co_70, co_74, co_78, co_68, co_76, co_75, co_77, co_23, co_73, co_72, co_118, co_219, co_121, co_80, co_67, co_235, co_245, co_185, co_217, co_238, co_242, co_4, co_3, co_9, co_5] at h
  obtain ⟨h0, h1, h2, h3, h4⟩ := h
  obtain ⟨x0, e0, w0⟩ := fits_i64 Tryz.underlying3 h0
  obtain ⟨x1, e1, w1⟩ := fits_i64 Tryz.underlying3 h1
  obtain ⟨x2, e2, w2⟩ := fits_i64 Tryz.underlying3 h2
  obtain ⟨x3, e3, w3⟩ := fits_i64 Tryz.underlying3 h3
  obtain ⟨x4, e4, w4⟩ := fits_i64 Tryz.underlying3 h4
  simp at e0 e1 e2 e3 e4
  subst e0 e1 e2 e3 e4
  exact ⟨⟨x0, x1, x2, x3, x4⟩, rfl, w0, w1, w2, w3, w4⟩
theorem fit_Image {n : Nat} (cs : List Dat) (h : FitsN Tryz.prog n 80 cs) : ∃ a : Image, Dat.agg cs = a.enc ∧ a.WF := by
  obtain ⟨hl, h⟩ := fits_struct Tryz.underlying80 co_80 h
  rcases cs with _ | ⟨c0, _ | ⟨c1, _ | ⟨c2, _ | ⟨c3, _ | ⟨c4, _ | ⟨c5, _ | ⟨c6, _ | ⟨c7, _ | ⟨c8, _ | ⟨c9, _ | ⟨c10, _ | ⟨c11, _ | ⟨c12, _ | ⟨c13, _ | ⟨c14, _ | ⟨c15, _ | ⟨c16, _ | ⟨c17, _ | ⟨c18, _ | ⟨z, zs⟩⟩⟩⟩⟩⟩⟩⟩⟩⟩⟩⟩⟩⟩⟩⟩⟩⟩⟩⟩ <;> simp at hl
  simp [co_69, co_215, co_71, co_70, co_74, co_78, co_68, co_76, co_75, co_77, co_23, co_73, co_72, co_118, co_219, co_121, co_80, co_67, co_235, co_245, co_185, co_217, co_238, co_242, co_4, co_3, co_9, co_5] at h
  obtain ⟨h0, h1, h2, h3, h4, h5, h6, h7, h8, h9, h10, h11, h12, h13, h14, h15, h16, h17, h18⟩ := h
  obtain ⟨x0, e0, w0⟩ := fits_str Tryz.underlying9 h0
  obtain ⟨x1, e1⟩ := fits_bool Tryz.underlying4 h1
  obtain ⟨x2, e2, w2, u2⟩ := fits_sl Segment.enc Segment.WF Tryz.underlying68 (by kernel_rfl) (fun zs h => fit_Segment zs h) h2
  obtain ⟨x3, e3, w3⟩ := fits_i64 Tryz.underlying3 h3
  obtain ⟨x4, e4, w4, u4⟩ := fits_sl Export.enc Export.WF Tryz.underlying69 (by kernel_rfl) (fun zs h => fit_Export zs h) h4
  obtain ⟨x5, e5, w5, u5⟩ := fits_sl Import.enc Import.WF Tryz.underlying70 (by kernel_rfl) (fun zs h => fit_Import zs h) h5
  obtain ⟨x6, e6, w6, u6⟩ := fits_sl Fixup.enc Fixup.WF Tryz.underlying71 (by kernel_rfl) (fun zs h => fit_Fixup zs h) h6
  obtain ⟨x7, e7, w7, u7⟩ := fit_bytes h7
  obtain ⟨x8, e8, w8⟩ := fits_i64 Tryz.underlying3 h8
  obtain ⟨x9, e9, w9, u9⟩ := fit_ints h9
  obtain ⟨x10, e10, w10, u10⟩ := fit_ints h10
  obtain ⟨x11, e11, w11, u11⟩ := fit_strs h11
  obtain ⟨x12, e12, w12⟩ := fits_i64 Tryz.underlying3 h12
  obtain ⟨x13, e13, w13, u13⟩ := fits_sl LineRow.enc LineRow.WF Tryz.underlying74 (by kernel_rfl) (fun zs h => fit_LineRow zs h) h13
  obtain ⟨x14, e14, w14, u14⟩ := fits_sl UnwindRow.enc UnwindRow.WF Tryz.underlying75 (by kernel_rfl) (fun zs h => fit_UnwindRow zs h) h14
  obtain ⟨x15, e15, w15, u15⟩ := fit_strs h15
  obtain ⟨x16, e16, w16, u16⟩ := fits_sl TypeR.enc TypeR.WF Tryz.underlying76 (by kernel_rfl) (fun zs h => fit_TypeR zs h) h16
  obtain ⟨x17, e17, w17, u17⟩ := fits_sl Variable.enc Variable.WF Tryz.underlying77 (by kernel_rfl) (fun zs h => fit_Variable zs h) h17
  obtain ⟨x18, e18, w18, u18⟩ := fits_sl PlaceR.enc PlaceR.WF Tryz.underlying78 (by kernel_rfl) (fun zs h => fit_PlaceR zs h) h18
  simp at e0 e1 e2 e3 e4 e5 e6 e7 e8 e9 e10 e11 e12 e13 e14 e15 e16 e17 e18
  subst e0 e1 e2 e3 e4 e5 e6 e7 e8 e9 e10 e11 e12 e13 e14 e15 e16 e17 e18
  exact ⟨⟨x0, x1, x2, x3, x4, x5, x6, x7, x8, x9, x10, x11, x12, x13, x14, x15, x16, x17, x18⟩, rfl, ⟨w0, ⟨w2, u2⟩, w3, ⟨w4, u4⟩, ⟨w5, u5⟩, ⟨w6, u6⟩, ⟨w7, u7⟩, w8, ⟨w9, u9⟩, ⟨w10, u10⟩, ⟨w11, u11⟩, w12, ⟨w13, u13⟩, ⟨w14, u14⟩, ⟨w15, u15⟩, ⟨w16, u16⟩, ⟨w17, u17⟩, ⟨w18, u18⟩⟩⟩
theorem co_L : Tryz.prog.cellsOf 82 = 22 := by kernel_rfl
theorem fit_Loaded {n : Nat} (cs : List Dat) (h : FitsN Tryz.prog n 82 cs) : ∃ a : Loaded, Dat.agg cs = a.enc ∧ a.WF := by
  obtain ⟨hl, h⟩ := fits_struct Tryz.underlying82 co_L h
  rcases cs with _ | ⟨c0, _ | ⟨c1, _ | ⟨c2, _ | ⟨c3, _ | ⟨c4, _ | ⟨c5, _ | ⟨c6, _ | ⟨c7, _ | ⟨c8, _ | ⟨c9, _ | ⟨c10, _ | ⟨c11, _ | ⟨c12, _ | ⟨c13, _ | ⟨c14, _ | ⟨c15, _ | ⟨c16, _ | ⟨c17, _ | ⟨c18, _ | ⟨c19, _ | ⟨c20, _ | ⟨c21, _ | ⟨z, zs⟩⟩⟩⟩⟩⟩⟩⟩⟩⟩⟩⟩⟩⟩⟩⟩⟩⟩⟩⟩⟩⟩⟩ <;> simp at hl
  simp [co_80, co_3] at h
  obtain ⟨h0, h1, h2, h3⟩ := h
  obtain ⟨x, e, w⟩ := fit_Image _ h0
  obtain ⟨x1, e1, w1⟩ := fits_i64 Tryz.underlying3 h1
  obtain ⟨x2, e2, w2⟩ := fits_i64 Tryz.underlying3 h2
  obtain ⟨x3, e3, w3⟩ := fits_i64 Tryz.underlying3 h3
  simp at e1 e2 e3
  subst e1 e2 e3
  refine ⟨⟨x, x1, x2, x3⟩, ?_, w, w1, w2, w3⟩
  unfold Image.enc at e
  injection e with e
  simp [Loaded.enc, ← e]
end Go.Proofs.YtflpgdlgfffigaaGreat
