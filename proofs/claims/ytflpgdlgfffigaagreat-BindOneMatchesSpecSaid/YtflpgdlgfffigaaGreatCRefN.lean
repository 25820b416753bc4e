/- The references: what an import refers to. -/
import Derived.Test.YtflpgdlgfffigaaGreatCoreC
import Derived.Test.YtflpgdlgfffigaaGreatCRefI
import Derived.Test.YtflpgdlgfffigaaGreatCRefK
set_option linter.unusedSimpArgs false
set_option linter.unusedVariables false
namespace Go.Proofs.YtflpgdlgfffigaaGreat
open Go Go.Abs
set_option maxRecDepth 8000
set_option maxHeartbeats 4000000

theorem defined6_c (l : List Loaded) (hl : Short l ∧ ∀ x ∈ l, x.WF) (hb : l.length * 384 ≤ 140737488355328) (hok : loadedF l = Fault.ok) (im : Nat) (y : Loaded) (hy : l[im]? = some y) (k : Nat) (m : Import) (hm : y.image.imports[k]? = some m) :
    RCall Tryz.prog 72 [.dat (.sl (l.map Loaded.enc)), .dat (.int .i64 im), .dat (.int .i64 k)] (lookP (foundAt l im m)) := by
  obtain ⟨hone, holen, hoin⟩ := orderOf_facts hok
  obtain ⟨hc, hbad, hmis⟩ := loaded_all hok
  obtain ⟨hc1, hc2, hc3⟩ := check_all hc
  rw [imagesOf_len] at hc1 hc2
  have hwf := imagesOf_wf hl
  have himg := imagesOf6_c l hb
  have hsea : RCall Tryz.prog 20 [.dat (.sl ((imagesOf l).map Image.enc))] (.dat (intsD (orderOf l))) := searched6_c (imagesOf l) hwf (by rw [imagesOf_len]; omega) (fun x hx => by have := image_needs (check_img hc hx); omega) hmis
  have hfo : foundAt l im m = lookupF (imagesOf l) m.name m.version ((orderOf l).filter fun v => !decide (v = (im : Int))) := rfl
  rw [hfo]
  have hfound := found6_c (imagesOf l) hwf ((orderOf l).filter fun v => !decide (v = (im : Int))) (by unfold Short; have := List.length_filter_le (fun v : Int => !decide (v = (im : Int))) (orderOf l); omega) (fun i hi => by rw [imagesOf_len]; exact hoin i (List.mem_filter.1 hi).1) m.name m.version
  have himl : im < l.length := (List.getElem?_eq_some_iff.1 hy).1
  have hiy : (imagesOf l)[im]? = some y.image := by unfold imagesOf; rw [List.getElem?_map, hy]; rfl
  have himl2 : im < (imagesOf l).length := by rw [imagesOf_len]; exact himl
  have hiy' : ∀ h, (imagesOf l)[im]'h = y.image := fun h => (List.getElem?_eq_some_iff.1 hiy).2
  have hkl : k < y.image.imports.length := (List.getElem?_eq_some_iff.1 hm).1
  have hm' : y.image.imports[k] = m := (List.getElem?_eq_some_iff.1 hm).2
  have hag := Image.ag y.image
  have hagm := Import.ag m
  have i5 : y.image.enc.cells[5]? = some (.sl (y.image.imports.map Import.enc)) := rfl
  have i5' : ∀ h, y.image.enc.cells[5]'h = .sl (y.image.imports.map Import.enc) := fun _ => rfl
  generalize orderOf l = order at *
  generalize imagesOf l = images at *
  unfold intsD at hsea hfound
  refine rcall_of hmix [] Tryz.func72 (by kernel_rfl) rfl (by simp [Tryz.f72]) ?_
  simp -dsimp [Tryz.f72]
  refine callA himg ?_ rfl
  simp -dsimp
  refine callA hsea ?_ rfl
  simp -dsimp
  refine awp_loopN order.length (fun j s => s.t 12 = .dat (.int .i64 j) ∧ s.t 10 = .dat (.sl (order.map (.int .i64))) ∧ s.t 9 = .dat (.sl (images.map Image.enc)) ∧ s.t 1 = .dat (.int .i64 im) ∧ s.t 2 = .dat (.int .i64 k) ∧ Grows [36] 3 (s.t 11) ((order.take j).filter fun v => !decide (v = (im : Int))))
    ⟨by simp, by simp, by simp, by simp, by simp, .inl ⟨by simp, by simp⟩⟩ ?_
  rintro j s hj ⟨h12, h10, h9, h1, h2, hgr⟩
  by_cases hlt : j < order.length
  · have hw : IntKind.i64.wrap ((j : Int) + 1) = j + 1 := wrap_in (by omega) (by omega)
    obtain ⟨v, hv⟩ : ∃ v, order[j]? = some v := ⟨_, List.getElem?_eq_getElem hlt⟩
    have hv' : order[j] = v := (List.getElem?_eq_some_iff.1 hv).2
    have htk : (order.take (j + 1)).filter (fun v => !decide (v = (im : Int))) = (order.take j).filter (fun v => !decide (v = (im : Int))) ++ (if v = (im : Int) then [] else [v]) := by
      rw [List.take_succ_eq_append_getElem hlt, hv', List.filter_append]
      congr 1
      by_cases e : v = (im : Int) <;> simp [e]
    have hql : ((order.take j).filter (fun v => !decide (v = (im : Int)))).length ≤ 1000 := by
      have := List.length_filter_le (fun v : Int => !decide (v = (im : Int))) (order.take j)
      simp at this
      omega
    generalize (order.take j).filter (fun v => !decide (v = (im : Int))) = q at *
    have b1 : (q.length + 1) * 8 ≤ 140737488355328 := by omega
    have b2 : q.length + 1 ≤ 9223372036854775807 := by omega
    by_cases e : v = (im : Int)
    · rw [if_pos e, List.append_nil] at htk
      simp -dsimp [h12, h10, h9, h1, h2, hlt, hv, hv', e, hw, htk]
      exact hgr
    · rw [if_neg e] at htk
      rcases hgr with ⟨hq, h11⟩ | ⟨d, hd, h11⟩
      · subst hq
        simp -dsimp [h12, h10, h9, h1, h2, h11, hlt, hv, hv', e, hw, htk]
        exact .inr ⟨36, by simp, by simp⟩
      · simp only [List.mem_singleton] at hd; subst hd
        simp -dsimp [h12, h10, h9, h1, h2, h11, hlt, hv, hv', e, hw, htk, b1, b2]
        exact .inr ⟨36, by simp, by simp⟩
  · have hje : j = order.length := by omega
    subst hje
    rw [List.take_length] at hgr
    generalize order.filter (fun v => !decide (v = (im : Int))) = q at *
    have hn0 : m.enc.cells[0]? = some (.str m.name) := rfl
    have hn0' : ∀ h, m.enc.cells[0]'h = .str m.name := fun _ => rfl
    have hn1 : m.enc.cells[1]? = some (.str m.version) := rfl
    have hn1' : ∀ h, m.enc.cells[1]'h = .str m.version := fun _ => rfl
    rcases hgr with ⟨hq, h11⟩ | ⟨d, hd, h11⟩
    · subst hq
      simp -dsimp [h12, h10, h9, h1, h2, h11, himl2, hiy, hiy', hag.len, i5, i5', hkl, hm, hm', hagm.len, hagm.ld, hagm.mkT, hagm.flats, hagm.mk, hn0, hn0', hn1, hn1']
      refine callA hfound ?_ rfl
      simp -dsimp [lookP]
    · simp only [List.mem_singleton] at hd; subst hd
      simp -dsimp [h12, h10, h9, h1, h2, h11, himl2, hiy, hiy', hag.len, i5, i5', hkl, hm, hm', hagm.len, hagm.ld, hagm.mkT, hagm.flats, hagm.mk, hn0, hn0', hn1, hn1']
      refine callA hfound ?_ rfl
      simp -dsimp [lookP]

def okT (t : Tgt) : Bool := t.found && !t.thread
def targetP (t : Tgt) : PVal := .tup [.dat (.int .i64 (if okT t = true then t.value else 0)), .dat (.bool (okT t))]
def valueP (t : Tgt) : PVal := .tup [.dat (.int .i64 t.value), .dat (.bool t.found), .dat (.bool t.thread)]

theorem target6_c (l : List Loaded) (hl : Short l ∧ ∀ x ∈ l, x.WF) (hb : l.length * 384 ≤ 140737488355328) (hok : loadedF l = Fault.ok) (im : Nat) (y : Loaded) (hy : l[im]? = some y) (k : Nat) (m : Import) (hm : y.image.imports[k]? = some m) :
    RCall Tryz.prog 33 [.dat (.sl (l.map Loaded.enc)), .dat (.int .i64 im), .dat (.int .i64 k)] (targetP (targetOf l im y m)) := by
  have hdef := defined6_c l hl hb hok im y hy k m hm
  have himl : im < l.length := (List.getElem?_eq_some_iff.1 hy).1
  have hy' : ∀ h, l[im]'h = y := fun h => (List.getElem?_eq_some_iff.1 hy).2
  have hkl : k < y.image.imports.length := (List.getElem?_eq_some_iff.1 hm).1
  have hm' : ∀ h, y.image.imports[k]'h = m := fun h => (List.getElem?_eq_some_iff.1 hm).2
  have hagl := Loaded.ag y
  have hagm := Import.ag m
  have i5 : y.enc.cells[5]? = some (.sl (y.image.imports.map Import.enc)) := rfl
  have i5' : ∀ h, y.enc.cells[5]'h = .sl (y.image.imports.map Import.enc) := fun _ => rfl
  have m4 : m.enc.cells[4]? = some (.int .i64 m.copy) := rfl
  have m4' : ∀ h, m.enc.cells[4]'h = .int .i64 m.copy := fun _ => rfl
  have b1 := loaded_19 y
  have b1' := loaded_19' y
  have htg : targetOf l im y m = if (foundAt l im m).2.2 = true then targetAt l y.bias m (foundAt l im m).1 (foundAt l im m).2.1 else Tgt.none := rfl
  rw [htg]
  have hfound := fun i e => @found_at l hok im m i e
  generalize foundAt l im m = r at *
  obtain ⟨i, e, ok⟩ := r
  simp only [lookP] at hdef
  cases ok
  · refine rcall_of hmix [] Tryz.func33 (by kernel_rfl) rfl (by simp [Tryz.f33]) ?_
    simp -dsimp [Tryz.f33]
    refine callA hdef ?_ rfl
    simp -dsimp [Tgt.none, targetP, okT]
  · obtain ⟨g1, g2, g3, gne, y2, x, hy2, hx⟩ := hfound i e rfl
    have hagl2 := Loaded.ag y2
    have hagx := Export.ag x
    have j4 : y2.enc.cells[4]? = some (.sl (y2.image.exports.map Export.enc)) := rfl
    have j4' : ∀ h, y2.enc.cells[4]'h = .sl (y2.image.exports.map Export.enc) := fun _ => rfl
    have x4 : x.enc.cells[4]? = some (.bool x.thread) := rfl
    have x4' : ∀ h, x.enc.cells[4]'h = .bool x.thread := fun _ => rfl
    have x5 : x.enc.cells[5]? = some (.int .i64 x.address) := rfl
    have x5' : ∀ h, x.enc.cells[5]'h = .int .i64 x.address := fun _ => rfl
    have b2 := loaded_19 y2
    have b2' := loaded_19' y2
    have hta : targetAt l y.bias m i e = if x.thread = true then ⟨true, true, false, W (y2.thread + x.address)⟩ else if 0 ≤ m.copy then ⟨true, false, false, W (m.copy + y.bias)⟩ else ⟨true, false, executableB y2.image x.address, W (x.address + y2.bias)⟩ := by
      unfold targetAt; simp only [hy2, hx]
    simp only [if_true]
    rw [hta]
    cases hth : x.thread
    · simp only [hth, Bool.false_eq_true, if_false]
      by_cases hcp : 0 ≤ m.copy
      · rw [if_pos hcp]
        refine rcall_of hmix [] Tryz.func33 (by kernel_rfl) rfl (by simp [Tryz.f33]) ?_
        simp -dsimp [Tryz.f33]
        refine callA hdef ?_ rfl
        simp -dsimp [g1, g3, hy2, hagl2.len, j4, j4', hx, hagx.len, x4, x4', hth, himl, hy, hy', hagl.len, i5, i5', hkl, hm, hm', hagm.len, hagm.ld, hagm.mkT, hagm.flats, hagm.mk, m4, m4', hcp, b1, b1']
        refine ⟨show orderOk _ _ = true by kernel_rfl, ?_⟩
        simp [targetP, okT, W]
      · rw [if_neg hcp]
        refine rcall_of hmix [] Tryz.func33 (by kernel_rfl) rfl (by simp [Tryz.f33]) ?_
        simp -dsimp [Tryz.f33]
        refine callA hdef ?_ rfl
        simp -dsimp [g1, g3, hy2, hagl2.len, j4, j4', hx, hagx.len, x4, x4', x5, x5', hth, himl, hy, hy', hagl.len, i5, i5', hkl, hm, hm', hagm.len, hagm.ld, hagm.mkT, hagm.flats, hagm.mk, m4, m4', hcp, b2, b2']
        refine ⟨show orderOk _ _ = true by kernel_rfl, ?_⟩
        simp [targetP, okT, W]
    · simp only [hth, if_true]
      refine rcall_of hmix [] Tryz.func33 (by kernel_rfl) rfl (by simp [Tryz.f33]) ?_
      simp -dsimp [Tryz.f33]
      refine callA hdef ?_ rfl
      simp -dsimp [g1, g3, hy2, hagl2.len, j4, j4', hx, hagx.len, x4, x4', hth, targetP, okT]

theorem value6_c (l : List Loaded) (hl : Short l ∧ ∀ x ∈ l, x.WF) (hb : l.length * 384 ≤ 140737488355328) (hok : loadedF l = Fault.ok) (im : Nat) (y : Loaded) (hy : l[im]? = some y) (k : Nat) (m : Import) (hm : y.image.imports[k]? = some m) :
    RCall Tryz.prog 75 [.dat (.sl (l.map Loaded.enc)), .dat (.int .i64 im), .dat (.int .i64 k)] (valueP (targetOf l im y m)) := by
  have hdef := defined6_c l hl hb hok im y hy k m hm
  have htgt := target6_c l hl hb hok im y hy k m hm
  have htg : targetOf l im y m = if (foundAt l im m).2.2 = true then targetAt l y.bias m (foundAt l im m).1 (foundAt l im m).2.1 else Tgt.none := rfl
  rw [htg] at htgt ⊢
  have hfound := fun i e => @found_at l hok im m i e
  generalize foundAt l im m = r at *
  obtain ⟨i, e, ok⟩ := r
  simp only [lookP] at hdef
  cases ok
  · refine rcall_of hmix [] Tryz.func75 (by kernel_rfl) rfl (by simp [Tryz.f75]) ?_
    simp -dsimp [Tryz.f75]
    refine callA hdef ?_ rfl
    simp -dsimp [Tgt.none, valueP]
  · obtain ⟨g1, g2, g3, gne, y2, x, hy2, hx⟩ := hfound i e rfl
    have hagl2 := Loaded.ag y2
    have hagx := Export.ag x
    have j4 : y2.enc.cells[4]? = some (.sl (y2.image.exports.map Export.enc)) := rfl
    have j4' : ∀ h, y2.enc.cells[4]'h = .sl (y2.image.exports.map Export.enc) := fun _ => rfl
    have x4 : x.enc.cells[4]? = some (.bool x.thread) := rfl
    have x4' : ∀ h, x.enc.cells[4]'h = .bool x.thread := fun _ => rfl
    have x5 : x.enc.cells[5]? = some (.int .i64 x.address) := rfl
    have x5' : ∀ h, x.enc.cells[5]'h = .int .i64 x.address := fun _ => rfl
    have t2 := loaded_20 y2
    have t2' := loaded_20' y2
    have hta : targetAt l y.bias m i e = if x.thread = true then ⟨true, true, false, W (y2.thread + x.address)⟩ else if 0 ≤ m.copy then ⟨true, false, false, W (m.copy + y.bias)⟩ else ⟨true, false, executableB y2.image x.address, W (x.address + y2.bias)⟩ := by
      unfold targetAt; simp only [hy2, hx]
    simp only [if_true] at htgt ⊢
    rw [hta] at htgt ⊢
    cases hth : x.thread
    · simp only [hth, Bool.false_eq_true, if_false] at htgt ⊢
      obtain ⟨T, hT, hT1, hT2⟩ : ∃ T : Tgt, (if 0 ≤ m.copy then (⟨true, false, false, W (m.copy + y.bias)⟩ : Tgt) else ⟨true, false, executableB y2.image x.address, W (x.address + y2.bias)⟩) = T ∧ T.found = true ∧ T.thread = false := ⟨_, rfl, by split <;> rfl, by split <;> rfl⟩
      rw [hT] at htgt ⊢
      have hokT : okT T = true := by unfold okT; rw [hT1, hT2]; rfl
      simp only [targetP, hokT, if_true] at htgt
      refine rcall_of hmix [] Tryz.func75 (by kernel_rfl) rfl (by simp [Tryz.f75]) ?_
      simp -dsimp [Tryz.f75]
      refine callA hdef ?_ rfl
      simp -dsimp [g1, g3, hy2, hagl2.len, j4, j4', hx, hagx.len, x4, x4', hth]
      refine callA htgt ?_ rfl
      simp -dsimp [valueP, hT1, hT2]
    · simp only [hth, if_true]
      refine rcall_of hmix [] Tryz.func75 (by kernel_rfl) rfl (by simp [Tryz.f75]) ?_
      simp -dsimp [Tryz.f75]
      refine callA hdef ?_ rfl
      simp -dsimp [g1, g3, hy2, hagl2.len, j4, j4', hx, hagx.len, x4, x4', x5, x5', hth, t2, t2']
      refine ⟨show orderOk _ _ = true by kernel_rfl, ?_⟩
      simp [valueP, W]

theorem function6_c (l : List Loaded) (hl : Short l ∧ ∀ x ∈ l, x.WF) (hb : l.length * 384 ≤ 140737488355328) (hok : loadedF l = Fault.ok) (im : Nat) (y : Loaded) (hy : l[im]? = some y) (k : Nat) (m : Import) (hm : y.image.imports[k]? = some m) (hcp : m.copy < 0) :
    RCall Tryz.prog 79 [.dat (.sl (l.map Loaded.enc)), .dat (.int .i64 im), .dat (.int .i64 k)] (.dat (.bool (targetOf l im y m).code)) := by
  have hdef := defined6_c l hl hb hok im y hy k m hm
  have htg : targetOf l im y m = if (foundAt l im m).2.2 = true then targetAt l y.bias m (foundAt l im m).1 (foundAt l im m).2.1 else Tgt.none := rfl
  rw [htg]
  have hfound := fun i e => @found_at l hok im m i e
  generalize foundAt l im m = r at *
  obtain ⟨i, e, ok⟩ := r
  simp only [lookP] at hdef
  cases ok
  · refine rcall_of hmix [] Tryz.func79 (by kernel_rfl) rfl (by simp [Tryz.f79]) ?_
    simp -dsimp [Tryz.f79]
    refine callA hdef ?_ rfl
    simp -dsimp [Tgt.none]
  · obtain ⟨g1, g2, g3, gne, y2, x, hy2, hx⟩ := hfound i e rfl
    have hy2w : y2.WF := hl.2 y2 (List.mem_of_getElem? hy2)
    have hy2l : i.toNat < l.length := (List.getElem?_eq_some_iff.1 hy2).1
    have hy2' : ∀ h, l[i.toNat]'h = y2 := fun h => (List.getElem?_eq_some_iff.1 hy2).2
    have himg2 : imageF y2.image = Fault.ok := loaded_image hok (List.mem_of_getElem? hy2)
    obtain ⟨hso, -⟩ := image_segOk himg2
    have hsl := hy2w.1.segments.1
    unfold Short at hsl
    have hagl2 := Loaded.ag y2
    have hagx := Export.ag x
    have j4 : y2.enc.cells[4]? = some (.sl (y2.image.exports.map Export.enc)) := rfl
    have j4' : ∀ h, y2.enc.cells[4]'h = .sl (y2.image.exports.map Export.enc) := fun _ => rfl
    have j2 : y2.enc.cells[2]? = some (.sl (y2.image.segments.map Segment.enc)) := rfl
    have j2' : ∀ h, y2.enc.cells[2]'h = .sl (y2.image.segments.map Segment.enc) := fun _ => rfl
    have x4 : x.enc.cells[4]? = some (.bool x.thread) := rfl
    have x4' : ∀ h, x.enc.cells[4]'h = .bool x.thread := fun _ => rfl
    have x5 : x.enc.cells[5]? = some (.int .i64 x.address) := rfl
    have x5' : ∀ h, x.enc.cells[5]'h = .int .i64 x.address := fun _ => rfl
    have hta : targetAt l y.bias m i e = if x.thread = true then ⟨true, true, false, W (y2.thread + x.address)⟩ else if 0 ≤ m.copy then ⟨true, false, false, W (m.copy + y.bias)⟩ else ⟨true, false, executableB y2.image x.address, W (x.address + y2.bias)⟩ := by
      unfold targetAt; simp only [hy2, hx]
    simp only [if_true]
    rw [hta]
    cases hth : x.thread
    · simp only [hth, Bool.false_eq_true, if_false]
      rw [if_neg (by omega)]
      have hex : executableB y2.image x.address = execRef x.address y2.image.segments := (execRef_eq x.address _ hso).symm
      rw [show (Tgt.code ⟨true, false, executableB y2.image x.address, W (x.address + y2.bias)⟩) = execRef x.address y2.image.segments from hex]
      refine rcall_of hmix [] Tryz.func79 (by kernel_rfl) rfl (by simp [Tryz.f79]) ?_
      simp -dsimp [Tryz.f79]
      refine callA hdef ?_ rfl
      simp -dsimp [g1, g3, hy2, hagl2.len, j4, j4', hx, hagx.len, x4, x4', x5, x5', hth]
      refine awp_loopN y2.image.segments.length (fun j s => s.t 11 = .dat (.int .i64 j) ∧ s.t 10 = .dat (.int .i64 x.address) ∧ s.t 7 = .dat (.int .i64 i) ∧ s.t 0 = .dat (.sl (l.map Loaded.enc)) ∧ execRef x.address y2.image.segments = execRef x.address (y2.image.segments.drop j)) ⟨by simp, by simp, by simp, by simp, by simp⟩ ?_
      rintro j s hj ⟨h11, h10, h7, h0, hrest⟩
      by_cases hlt : j < y2.image.segments.length
      · have hw : IntKind.i64.wrap ((j : Int) + 1) = j + 1 := wrap_in (by omega) (by omega)
        obtain ⟨g, hg⟩ : ∃ g, y2.image.segments[j]? = some g := ⟨_, List.getElem?_eq_getElem hlt⟩
        have hg' : ∀ h, y2.image.segments[j]'h = g := fun h => (List.getElem?_eq_some_iff.1 hg).2
        have hdrop : y2.image.segments.drop j = g :: y2.image.segments.drop (j + 1) := by rw [← (List.getElem?_eq_some_iff.1 hg).2]; exact List.drop_eq_getElem_cons hlt
        rw [hdrop] at hrest
        simp only [execRef] at hrest
        have hagg := Segment.ag g
        have s0 : g.enc.cells[0]? = some (.int .i64 g.address) := rfl
        have s0' : ∀ h, g.enc.cells[0]'h = .int .i64 g.address := fun _ => rfl
        have s1 : g.enc.cells[1]? = some (.int .i64 g.size) := rfl
        have s1' : ∀ h, g.enc.cells[1]'h = .int .i64 g.size := fun _ => rfl
        have s2 : g.enc.cells[2]? = some (.int .i64 g.rights) := rfl
        have s2' : ∀ h, g.enc.cells[2]'h = .int .i64 g.rights := fun _ => rfl
        have hr := (hso g (List.mem_of_getElem? hg)).2
        have hq : IntKind.i64.wrap (g.rights.tdiv 4) = g.rights.tdiv 4 := by
          have : g.rights = 1 ∨ g.rights = 2 ∨ g.rights = 3 ∨ g.rights = 4 ∨ g.rights = 5 ∨ g.rights = 6 ∨ g.rights = 7 := by omega
          rcases this with e | e | e | e | e | e | e <;> rw [e] <;> decide +kernel
        unfold W at hrest
        simp -dsimp [h11, h10, h7, h0, g1, hy2, hy2', hy2l, hagl2.len, j2, j2', hlt, hg, hg', hagg.len, hagg.ld, hagg.mkT, hagg.flats, hagg.mk, s0, s0', s1, s1']
        refine callA (in6_c _ _ _) ?_ rfl
        by_cases hin : inB x.address g.address (IntKind.i64.wrap (IntKind.i64.wrap (g.address + g.size) - 1)) = true
        · rw [if_pos hin] at hrest
          simp -dsimp [hin, hagg.len, s2, s2', hq, hrest]
        · rw [if_neg hin] at hrest
          simp -dsimp [hin, h11, h10, h7, h0, hw, hlt, hrest]
      · have hje : j = y2.image.segments.length := by omega
        subst hje
        have hfin : execRef x.address y2.image.segments = false := by rw [hrest]; simp [execRef]
        simp -dsimp [h11, h10, h7, h0, g1, hy2, hy2', hy2l, hagl2.len, j2, j2', hfin]
    · simp only [hth, if_true]
      refine rcall_of hmix [] Tryz.func79 (by kernel_rfl) rfl (by simp [Tryz.f79]) ?_
      simp -dsimp [Tryz.f79]
      refine callA hdef ?_ rfl
      simp -dsimp [g1, g3, hy2, hagl2.len, j4, j4', hx, hagx.len, x4, x4', hth]

theorem word6_c (n : Int) (hn : I64 n) : RCall Tryz.prog 76 [.dat (.int .i64 n)] (.dat (.int .u32 (wrapU n))) := by
  have h := word_wrap hn
  unfold W at h
  refine rcall_of hmix [] Tryz.func76 (by kernel_rfl) rfl (by simp [Tryz.f76]) ?_
  simp -dsimp [Tryz.f76, h]
theorem slotCode6_c (im k : Nat) (h1 : im < 5) (h2 : k < 80) : RCall Tryz.prog 80 [.dat (.int .i64 im), .dat (.int .i64 k)] (.dat (.int .i64 (codeOf im k))) := by
  rw [codeOf_in h1 h2]
  have e1 : IntKind.i64.wrap (320 * (im : Int)) = 320 * im := wrap_in (by omega) (by omega)
  have e2 : IntKind.i64.wrap (983040 + 320 * (im : Int)) = 983040 + 320 * im := wrap_in (by omega) (by omega)
  have e3 : IntKind.i64.wrap (4 * (k : Int)) = 4 * k := wrap_in (by omega) (by omega)
  have e4 : IntKind.i64.wrap (983040 + 320 * (im : Int) + 4 * (k : Int)) = 983040 + 4 * (80 * im + k) := by rw [wrap_in (by omega) (by omega)]; omega
  refine rcall_of hmix [] Tryz.func80 (by kernel_rfl) rfl (by simp [Tryz.f80]) ?_
  simp -dsimp [Tryz.f80, e1, e2, e3, e4]
end Go.Proofs.YtflpgdlgfffigaaGreat
