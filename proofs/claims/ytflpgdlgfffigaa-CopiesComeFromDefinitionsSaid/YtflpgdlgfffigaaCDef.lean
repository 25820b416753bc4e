/- The definition of an import in another image. -/
import Derived.Test.YtflpgdlgfffigaaCoreC
import Derived.Shelf.Slices.Clone
import Derived.Shelf.SlicesE.DeleteFunc
import Derived.WalkKit
import Derived.Test.YtflpgdlgfffigaaCCalls
set_option linter.unusedSimpArgs false
set_option linter.unusedVariables false
namespace Go.Proofs.Ytflpgdlgfffigaa
open Go Go.Abs Go.RowKit
set_option maxRecDepth 8000
set_option maxHeartbeats 4000000

def cloneRen : Go.Shelf.Ren := ⟨fun | 15 => 60 | n => n, fun | 22 => 23 | 3 => 3 | 4 => 4 | n => n, fun | n => n⟩
theorem cloneL : Go.Proofs.Lays2.n15 Try.prog cloneRen := {
  mixed := by kernel_rfl
  f15 := Try.func60.trans (congrArg some (by kernel_rfl))
  t3 := Try.underlying3
  a3 := Try.isAgg3
  z3 := Try.sizeOf3
  v3 := Try.zeroValue3
  t4 := Try.underlying4
  a4 := Try.isAgg4
  z4 := Try.sizeOf4
  v4 := Try.zeroValue4
  t22 := Try.underlying23
  a22 := Try.isAgg23
  z22 := Try.sizeOf23
  v22 := Try.zeroValue23
  i3 := by kernel_rfl }
def delRen : Go.Shelf.Ren := ⟨fun | 10 => 59 | 6 => 54 | n => n, fun | 22 => 23 | 23 => 3 | 25 => 89 | 3 => 3 | 4 => 4 | 0 => 0 | n => n, fun | n => n⟩
theorem delL : Go.Proofs.SlLaysH.n10 Try.prog delRen := {
  mixed := by kernel_rfl
  f6 := ⟨Try.f54.name, by decide, Try.func54.trans (congrArg some (by kernel_rfl))⟩
  f10 := ⟨Try.f59.name, by decide, Try.func59.trans (congrArg some (by kernel_rfl))⟩
  t0 := Try.underlying0
  a0 := Try.isAgg0
  z0 := Try.sizeOf0
  v0 := Try.zeroValue0
  t3 := Try.underlying3
  a3 := Try.isAgg3
  z3 := Try.sizeOf3
  v3 := Try.zeroValue3
  t4 := Try.underlying4
  a4 := Try.isAgg4
  z4 := Try.sizeOf4
  v4 := Try.zeroValue4
  t22 := Try.underlying23
  a22 := Try.isAgg23
  z22 := Try.sizeOf23
  v22 := Try.zeroValue23
  a23 := Try.isAgg3
  z23 := Try.sizeOf3
  t25 := Try.underlying89
  a25 := Try.isAgg89
  z25 := Try.sizeOf89
  v25 := Try.zeroValue89 }

theorem def1_gives (im x : Int) (ad : Addr) (W : World) (hc : W.cell? ad = some (.int .i64 im)) : FnGives Try.prog 61 #[.pointer (some ad)] #[.int .i64 x] (.bool (decide (x = im))) W := by
  show Calls Try.prog 61 #[.int .i64 x, .pointer (some ad)] W _
  go_enter Try.func61, Try.ntmps61
  go_wp2
  go_ret
  refine ⟨?_, 0, rfl⟩
  by_cases e : x = im <;> simp [e]

theorem defLaws : DefLaws Try.prog 60 59 61 3 := {
  cE := enters_of Try.func60 (by kernel_rfl) rfl
  dE := enters_of Try.func59 (by kernel_rfl) rfl
  clone := fun b off n c zs w h1 h2 h3 => Any.slices_Clone_int cloneL b off n c zs w h1 h2 h3
  del := fun p lb blk off cap d w h1 h2 h3 h4 h5 => AnyE.slices_DeleteFunc delL (Value.int .i64) (fun _ => rfl) p 61 lb (enters_of Try.func61 (by kernel_rfl) rfl) 0 Try.zeroValue3 blk off cap d w h1 h2 h3 h4 h5
  gives := def1_gives }

/-- The order without one image. -/
def others (order : List Int) (im : Int) : List Int := order.filter fun k => !decide (k = im)
theorem definition_c (l : List Loaded) (hl : Short l ∧ ∀ x ∈ l, x.WF) (hb : l.length * 384 ≤ 140737488355328) (order : List Int) (hne : order ≠ []) (hlen : order.length ≤ 1000) (hin : ∀ i ∈ order, 0 ≤ i ∧ i < l.length) (im : Int) (m : Import) :
    RCall Try.prog 42 [.dat (.sl (l.map Loaded.enc)), .dat (intsD order), .dat (.int .i64 im), .dat m.enc] (lookP (lookupF (imagesOf l) m.name m.version (others order im))) := by
  have himg := images_c l hb
  have hlook := lookup_c (imagesOf l) (imagesOf_wf hl) (others order im) (by unfold Short others; have := List.length_filter_le (fun k => !decide (k = im)) order; omega) (fun i hi => by
    rw [imagesOf_len]; exact hin i (List.mem_filter.1 hi).1) m.name m.version
  refine rcall_of_wp Try.func42 (by kernel_rfl) rfl (by simp [Try.f42]) ?_
  intro base E a w hI hN hd
  refine postA_cut (fun s => s.t 0 = .dat (.sl (l.map Loaded.enc)) ∧ s.t 1 = .dat (intsD order) ∧ s.t 6 = .cptr [.dat (.int .i64 im)] ∧ s.t 7 = .cptr (m.enc.cells.map .dat)) (awp_sound hmix (mb := []) _ _ _ (by
    have hag := Import.ag m
    simp -dsimp [hag.len, hag.flats, leaves]) hI hN hd) ?_
  rintro s ⟨h0, h1, h6, h7⟩ E1 a1 w1 hI1 hN1 hd1
  refine postA_cut _ (def_region defLaws rfl rfl rfl rfl rfl rfl rfl rfl rfl rfl rfl rfl rfl rfl rfl rfl hI1 hN1 hd1 order hne hlen im h1 h6) ?_
  rintro s2 ⟨k0, k7, k11⟩ E2 a2 w2 hI2 hN2 hd2
  rw [h0] at k0
  rw [h7] at k7
  refine awp_sound hmix (mb := []) _ _ _ ?_ hI2 hN2 hd2
  have n0 : m.enc.cells[0]? = some (.str m.name) := rfl
  have n1 : m.enc.cells[1]? = some (.str m.version) := rfl
  have n0' : ∀ h, m.enc.cells[0]'h = .str m.name := fun _ => rfl
  have n1' : ∀ h, m.enc.cells[1]'h = .str m.version := fun _ => rfl
  have hml := (Import.ag m).len
  simp -dsimp [Try.f42, k0, k7, k11, n0, n1, n0', n1', hml]
  refine callA himg ?_ rfl
  simp -dsimp [k0, k7, k11, n0, n1, n0', n1', hml]
  refine callA hlook ?_ rfl
  simp -dsimp [lookP]
  repeat' (first | (refine gif ?_ ?_ <;> intro h <;> (try simp only [Bool.not_eq_eq_eq_not, Bool.not_true, Bool.not_false, decide_eq_true_eq, decide_eq_false_iff_not] at h) <;> (try simp -dsimp [h, lookP])) | (refine And.intro (show orderOk _ _ = true by kernel_rfl) ?_) | (show orderOk _ _ = true; kernel_rfl))
end Go.Proofs.Ytflpgdlgfffigaa
