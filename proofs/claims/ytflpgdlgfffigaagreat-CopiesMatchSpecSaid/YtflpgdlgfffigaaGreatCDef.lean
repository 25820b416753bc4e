/- The definition of an import in another image. -/
import Derived.Test.YtflpgdlgfffigaaGreatCoreC
import Derived.Shelf.Slices.Clone
import Derived.Shelf.SlicesE.DeleteFunc
import Derived.WalkKit
import Derived.Test.YtflpgdlgfffigaaGreatCCalls
set_option linter.unusedSimpArgs false
set_option linter.unusedVariables false
namespace Go.Proofs.YtflpgdlgfffigaaGreat
open Go Go.Abs Go.RowKit
set_option maxRecDepth 8000
set_option maxHeartbeats 4000000

def cloneRen : Go.Shelf.Ren := ⟨fun | 15 => 128 | n => n, fun | 22 => 23 | 3 => 3 | 4 => 4 | n => n, fun | n => n⟩
theorem cloneL : Go.Proofs.Lays2.n15 Tryz.prog cloneRen := {
  mixed := by kernel_rfl
  f15 := Tryz.func128.trans (congrArg some (by kernel_rfl))
  t3 := Tryz.underlying3
  a3 := Tryz.isAgg3
  z3 := Tryz.sizeOf3
  v3 := Tryz.zeroValue3
  t4 := Tryz.underlying4
  a4 := Tryz.isAgg4
  z4 := Tryz.sizeOf4
  v4 := Tryz.zeroValue4
  t22 := Tryz.underlying23
  a22 := Tryz.isAgg23
  z22 := Tryz.sizeOf23
  v22 := Tryz.zeroValue23
  i3 := by kernel_rfl }
def delRen : Go.Shelf.Ren := ⟨fun | 10 => 127 | 6 => 112 | n => n, fun | 22 => 23 | 23 => 3 | 25 => 107 | 3 => 3 | 4 => 4 | 0 => 0 | n => n, fun | n => n⟩
theorem delL : Go.Proofs.SlLaysH.n10 Tryz.prog delRen := {
  mixed := by kernel_rfl
  f6 := ⟨Tryz.f112.name, by decide, Tryz.func112.trans (congrArg some (by kernel_rfl))⟩
  f10 := ⟨Tryz.f127.name, by decide, Tryz.func127.trans (congrArg some (by kernel_rfl))⟩
  t0 := Tryz.underlying0
  a0 := Tryz.isAgg0
  z0 := Tryz.sizeOf0
  v0 := Tryz.zeroValue0
  t3 := Tryz.underlying3
  a3 := Tryz.isAgg3
  z3 := Tryz.sizeOf3
  v3 := Tryz.zeroValue3
  t4 := Tryz.underlying4
  a4 := Tryz.isAgg4
  z4 := Tryz.sizeOf4
  v4 := Tryz.zeroValue4
  t22 := Tryz.underlying23
  a22 := Tryz.isAgg23
  z22 := Tryz.sizeOf23
  v22 := Tryz.zeroValue23
  a23 := Tryz.isAgg3
  z23 := Tryz.sizeOf3
  t25 := Tryz.underlying107
  a25 := Tryz.isAgg107
  z25 := Tryz.sizeOf107
  v25 := Tryz.zeroValue107 }

theorem def1_gives (im x : Int) (ad : Addr) (W : World) (hc : W.cell? ad = some (.int .i64 im)) : FnGives Tryz.prog 129 #[.pointer (some ad)] #[.int .i64 x] (.bool (decide (x = im))) W := by
  show Calls Tryz.prog 129 #[.int .i64 x, .pointer (some ad)] W _
  go_enter Tryz.func129, Tryz.ntmps129
  go_wp2
  go_ret
  refine ⟨?_, 0, rfl⟩
  by_cases e : x = im <;> simp [e]

theorem defLaws : DefLaws Tryz.prog 128 127 129 3 := {
  cE := enters_of Tryz.func128 (by kernel_rfl) rfl
  dE := enters_of Tryz.func127 (by kernel_rfl) rfl
  clone := fun b off n c zs w h1 h2 h3 => Any.slices_Clone_int cloneL b off n c zs w h1 h2 h3
  del := fun p lb blk off cap d w h1 h2 h3 h4 h5 => AnyE.slices_DeleteFunc delL (Value.int .i64) (fun _ => rfl) p 129 lb (enters_of Tryz.func129 (by kernel_rfl) rfl) 0 Tryz.zeroValue3 blk off cap d w h1 h2 h3 h4 h5
  gives := def1_gives }

/-- The order without one image. -/
def others (order : List Int) (im : Int) : List Int := order.filter fun k => !decide (k = im)
theorem definition_c (l : List Loaded) (hl : Short l ∧ ∀ x ∈ l, x.WF) (hb : l.length * 384 ≤ 140737488355328) (order : List Int) (hne : order ≠ []) (hlen : order.length ≤ 1000) (hin : ∀ i ∈ order, 0 ≤ i ∧ i < l.length) (im : Int) (m : Import) :
    RCall Tryz.prog 71 [.dat (.sl (l.map Loaded.enc)), .dat (intsD order), .dat (.int .i64 im), .dat m.enc] (lookP (lookupF (imagesOf l) m.name m.version (others order im))) := by
  have himg := images_c l hb
  have hlook := lookup_c (imagesOf l) (imagesOf_wf hl) (others order im) (by unfold Short others; have := List.length_filter_le (fun k => !decide (k = im)) order; omega) (fun i hi => by
    rw [imagesOf_len]; exact hin i (List.mem_filter.1 hi).1) m.name m.version
  refine rcall_of_wp Tryz.func71 (by kernel_rfl) rfl (by simp [Tryz.f71]) ?_
  intro base E a w hI hN hd
  refine postA_cut (fun s => s.t 0 = .dat (.sl (l.map Loaded.enc)) ∧ s.t 1 = .dat (intsD order) ∧ s.t 6 = .cptr [.dat (.int .i64 im)] ∧ s.t 7 = .cptr (m.enc.cells.map .dat)) (awp_sound hmix (mb := []) _ _ _ (by
    have hag := Import.ag m
    simp -dsimp [hag.len, hag.flats, leaves]) hI hN hd) ?_
  rintro s ⟨h0, h1, h6, h7⟩ E1 a1 w1 hI1 hN1 hd1
  refine postA_cut _ (def_region defLaws rfl rfl rfl rfl rfl rfl rfl rfl rfl rfl rfl rfl rfl rfl rfl rfl hI1 hN1 hd1 order hne hlen im h1 h6) ?_
  rintro s2 ⟨k0, k7, k11⟩ E2 a2 w2 hI2 hN2 hd2
  rw [h0] at k0
  rw [h7] at k7
  refine awp_sound hmix (mb := []) _ _ _ ?_ hI2 hN2 hd2
  have n0 : m.enc.cells[0]? = some (.str m.name) := rfl
  have n1 : m.enc.cells[1]? = some (.str m.version) := rfl
  have n0' : ∀ h, m.enc.cells[0]'h = .str m.name := fun _ => rfl
  have n1' : ∀ h, m.enc.cells[1]'h = .str m.version := fun _ => rfl
  have hml := (Import.ag m).len
  simp -dsimp [Tryz.f71, k0, k7, k11, n0, n1, n0', n1', hml]
  refine callA himg ?_ rfl
  simp -dsimp [k0, k7, k11, n0, n1, n0', n1', hml]
  refine callA hlook ?_ rfl
  simp -dsimp [lookP]
  repeat' (first | (refine gif ?_ ?_ <;> intro h <;> (try simp only [Bool.not_eq_eq_eq_not, Bool.not_true, Bool.not_false, decide_eq_true_eq, decide_eq_false_iff_not] at h) <;> (try simp -dsimp [h, lookP])) | (refine And.intro (show orderOk _ _ = true by kernel_rfl) ?_) | (show orderOk _ _ = true; kernel_rfl))
end Go.Proofs.YtflpgdlgfffigaaGreat
