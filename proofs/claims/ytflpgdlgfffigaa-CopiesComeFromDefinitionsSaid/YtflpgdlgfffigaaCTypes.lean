/- What is known of the types of the seat. -/
import Derived.Test.YtflpgdlgfffigaaCoreB
import Derived.Test.YtflpgdlgfffigaaProg
namespace Go.Proofs.Ytflpgdlgfffigaa
open Go Go.Abs
theorem hmix : Try.prog.follows .mixedOrders = true := by kernel_rfl
theorem ti0 : tinf Try.prog 0 = some { d := TD.other, size := 1, bytes := 0, zero := [PVal.top] } := by kernel_rfl
theorem ag0 : aggSize Try.prog 0 = some none := by kernel_rfl
theorem sz0 : szOf Try.prog 0 = some 1 := by kernel_rfl
theorem ti1 : tinf Try.prog 1 = some { d := TD.other, size := 1, bytes := 8, zero := [PVal.top] } := by kernel_rfl
theorem ag1 : aggSize Try.prog 1 = some none := by kernel_rfl
theorem sz1 : szOf Try.prog 1 = some 1 := by kernel_rfl
theorem ti2 : tinf Try.prog 2 = some { d := TD.int IntKind.i64, size := 1, bytes := 8, zero := [PVal.dat (Dat.int IntKind.i64 (0))] } := by kernel_rfl
theorem ag2 : aggSize Try.prog 2 = some none := by kernel_rfl
theorem sz2 : szOf Try.prog 2 = some 1 := by kernel_rfl
theorem ti3 : tinf Try.prog 3 = some { d := TD.int IntKind.i64, size := 1, bytes := 8, zero := [PVal.dat (Dat.int IntKind.i64 (0))] } := by kernel_rfl
theorem ag3 : aggSize Try.prog 3 = some none := by kernel_rfl
theorem sz3 : szOf Try.prog 3 = some 1 := by kernel_rfl
theorem ti4 : tinf Try.prog 4 = some { d := TD.bool, size := 1, bytes := 1, zero := [PVal.dat (Dat.bool false)] } := by kernel_rfl
theorem ag4 : aggSize Try.prog 4 = some none := by kernel_rfl
theorem sz4 : szOf Try.prog 4 = some 1 := by kernel_rfl
theorem ti5 : tinf Try.prog 5 = some { d := TD.int IntKind.u8, size := 1, bytes := 1, zero := [PVal.dat (Dat.int IntKind.u8 (0))] } := by kernel_rfl
theorem ag5 : aggSize Try.prog 5 = some none := by kernel_rfl
theorem sz5 : szOf Try.prog 5 = some 1 := by kernel_rfl
theorem ti6 : tinf Try.prog 6 = some { d := TD.int IntKind.u8, size := 1, bytes := 1, zero := [PVal.dat (Dat.int IntKind.u8 (0))] } := by kernel_rfl
theorem ag6 : aggSize Try.prog 6 = some none := by kernel_rfl
theorem sz6 : szOf Try.prog 6 = some 1 := by kernel_rfl
theorem ti7 : tinf Try.prog 7 = some { d := TD.struct [(2, 0), (3, 1), (4, 2), (6, 3)], size := 4, bytes := 24, zero := [PVal.dat (Dat.int IntKind.i64 (0)), PVal.dat (Dat.int IntKind.i64 (0)), PVal.dat (Dat.bool false), PVal.dat (Dat.int IntKind.u8 (0))] } := by kernel_rfl
theorem so7 : sizesOf Try.prog [(2, 0), (3, 1), (4, 2), (6, 3)] = some [(0, 1), (1, 1), (2, 1), (3, 1)] := by kernel_rfl
theorem ag7 : aggSize Try.prog 7 = some (some 4) := by kernel_rfl
theorem sz7 : szOf Try.prog 7 = some 4 := by kernel_rfl
theorem eq7 : eqOk Try.prog 7 = some [SK.i IntKind.i64, SK.i IntKind.i64, SK.b, SK.i IntKind.u8] := by kernel_rfl
theorem ti8 : tinf Try.prog 8 = some { d := TD.struct [(2, 0), (3, 1), (4, 2), (6, 3)], size := 4, bytes := 24, zero := [PVal.dat (Dat.int IntKind.i64 (0)), PVal.dat (Dat.int IntKind.i64 (0)), PVal.dat (Dat.bool false), PVal.dat (Dat.int IntKind.u8 (0))] } := by kernel_rfl
theorem so8 : sizesOf Try.prog [(2, 0), (3, 1), (4, 2), (6, 3)] = some [(0, 1), (1, 1), (2, 1), (3, 1)] := by kernel_rfl
theorem ag8 : aggSize Try.prog 8 = some (some 4) := by kernel_rfl
theorem sz8 : szOf Try.prog 8 = some 4 := by kernel_rfl
theorem eq8 : eqOk Try.prog 8 = some [SK.i IntKind.i64, SK.i IntKind.i64, SK.b, SK.i IntKind.u8] := by kernel_rfl
theorem ti9 : tinf Try.prog 9 = some { d := TD.string, size := 1, bytes := 16, zero := [PVal.dat (Dat.str { data := { toList := [] } })] } := by kernel_rfl
theorem ag9 : aggSize Try.prog 9 = some none := by kernel_rfl
theorem sz9 : szOf Try.prog 9 = some 1 := by kernel_rfl
theorem ti10 : tinf Try.prog 10 = some { d := TD.string, size := 1, bytes := 16, zero := [PVal.dat (Dat.str { data := { toList := [] } })] } := by kernel_rfl
theorem ag10 : aggSize Try.prog 10 = some none := by kernel_rfl
theorem sz10 : szOf Try.prog 10 = some 1 := by kernel_rfl
theorem ti11 : tinf Try.prog 11 = some { d := TD.string, size := 1, bytes := 16, zero := [PVal.dat (Dat.str { data := { toList := [] } })] } := by kernel_rfl
theorem ag11 : aggSize Try.prog 11 = some none := by kernel_rfl
theorem sz11 : szOf Try.prog 11 = some 1 := by kernel_rfl
theorem ti12 : tinf Try.prog 12 = some { d := TD.int IntKind.u64, size := 1, bytes := 8, zero := [PVal.dat (Dat.int IntKind.u64 (0))] } := by kernel_rfl
theorem ag12 : aggSize Try.prog 12 = some none := by kernel_rfl
theorem sz12 : szOf Try.prog 12 = some 1 := by kernel_rfl
theorem ti13 : tinf Try.prog 13 = some { d := TD.struct [(9, 0), (12, 1)], size := 2, bytes := 24, zero := [PVal.dat (Dat.str { data := { toList := [] } }), PVal.dat (Dat.int IntKind.u64 (0))] } := by kernel_rfl
theorem so13 : sizesOf Try.prog [(9, 0), (12, 1)] = some [(0, 1), (1, 1)] := by kernel_rfl
theorem ag13 : aggSize Try.prog 13 = some (some 2) := by kernel_rfl
theorem sz13 : szOf Try.prog 13 = some 2 := by kernel_rfl
theorem ti14 : tinf Try.prog 14 = some { d := TD.struct [(9, 0), (12, 1)], size := 2, bytes := 24, zero := [PVal.dat (Dat.str { data := { toList := [] } }), PVal.dat (Dat.int IntKind.u64 (0))] } := by kernel_rfl
theorem so14 : sizesOf Try.prog [(9, 0), (12, 1)] = some [(0, 1), (1, 1)] := by kernel_rfl
theorem ag14 : aggSize Try.prog 14 = some (some 2) := by kernel_rfl
theorem sz14 : szOf Try.prog 14 = some 2 := by kernel_rfl
theorem ti15 : tinf Try.prog 15 = some { d := TD.other, size := 1, bytes := 8, zero := [PVal.top] } := by kernel_rfl
theorem ag15 : aggSize Try.prog 15 = some none := by kernel_rfl
theorem sz15 : szOf Try.prog 15 = some 1 := by kernel_rfl
theorem ti16 : tinf Try.prog 16 = some { d := TD.other, size := 1, bytes := 8, zero := [PVal.top] } := by kernel_rfl
theorem ag16 : aggSize Try.prog 16 = some none := by kernel_rfl
theorem sz16 : szOf Try.prog 16 = some 1 := by kernel_rfl
theorem ti17 : tinf Try.prog 17 = some { d := TD.other, size := 1, bytes := 8, zero := [PVal.top] } := by kernel_rfl
theorem ag17 : aggSize Try.prog 17 = some none := by kernel_rfl
theorem sz17 : szOf Try.prog 17 = some 1 := by kernel_rfl
theorem ti18 : tinf Try.prog 18 = some { d := TD.struct [(17, 0)], size := 1, bytes := 8, zero := [PVal.top] } := by kernel_rfl
theorem so18 : sizesOf Try.prog [(17, 0)] = some [(0, 1)] := by kernel_rfl
theorem ag18 : aggSize Try.prog 18 = some (some 1) := by kernel_rfl
theorem sz18 : szOf Try.prog 18 = some 1 := by kernel_rfl
theorem ti19 : tinf Try.prog 19 = some { d := TD.struct [(17, 0)], size := 1, bytes := 8, zero := [PVal.top] } := by kernel_rfl
theorem so19 : sizesOf Try.prog [(17, 0)] = some [(0, 1)] := by kernel_rfl
theorem ag19 : aggSize Try.prog 19 = some (some 1) := by kernel_rfl
theorem sz19 : szOf Try.prog 19 = some 1 := by kernel_rfl
theorem ti20 : tinf Try.prog 20 = some { d := TD.other, size := 1, bytes := 16, zero := [PVal.top] } := by kernel_rfl
theorem ag20 : aggSize Try.prog 20 = some none := by kernel_rfl
theorem sz20 : szOf Try.prog 20 = some 1 := by kernel_rfl
theorem ti21 : tinf Try.prog 21 = some { d := TD.int IntKind.i32, size := 1, bytes := 4, zero := [PVal.dat (Dat.int IntKind.i32 (0))] } := by kernel_rfl
theorem ag21 : aggSize Try.prog 21 = some none := by kernel_rfl
theorem sz21 : szOf Try.prog 21 = some 1 := by kernel_rfl
theorem ti22 : tinf Try.prog 22 = some { d := TD.slice 46, size := 1, bytes := 24, zero := [PVal.nilS] } := by kernel_rfl
theorem ag22 : aggSize Try.prog 22 = some none := by kernel_rfl
theorem sz22 : szOf Try.prog 22 = some 1 := by kernel_rfl
theorem ti23 : tinf Try.prog 23 = some { d := TD.slice 3, size := 1, bytes := 24, zero := [PVal.nilS] } := by kernel_rfl
theorem ag23 : aggSize Try.prog 23 = some none := by kernel_rfl
theorem sz23 : szOf Try.prog 23 = some 1 := by kernel_rfl
theorem ti24 : tinf Try.prog 24 = some { d := TD.struct [(3, 0), (3, 1)], size := 2, bytes := 16, zero := [PVal.dat (Dat.int IntKind.i64 (0)), PVal.dat (Dat.int IntKind.i64 (0))] } := by kernel_rfl
theorem so24 : sizesOf Try.prog [(3, 0), (3, 1)] = some [(0, 1), (1, 1)] := by kernel_rfl
theorem ag24 : aggSize Try.prog 24 = some (some 2) := by kernel_rfl
theorem sz24 : szOf Try.prog 24 = some 2 := by kernel_rfl
theorem eq24 : eqOk Try.prog 24 = some [SK.i IntKind.i64, SK.i IntKind.i64] := by kernel_rfl
theorem ti25 : tinf Try.prog 25 = some { d := TD.struct [(3, 0), (3, 1)], size := 2, bytes := 16, zero := [PVal.dat (Dat.int IntKind.i64 (0)), PVal.dat (Dat.int IntKind.i64 (0))] } := by kernel_rfl
theorem so25 : sizesOf Try.prog [(3, 0), (3, 1)] = some [(0, 1), (1, 1)] := by kernel_rfl
theorem ag25 : aggSize Try.prog 25 = some (some 2) := by kernel_rfl
theorem sz25 : szOf Try.prog 25 = some 2 := by kernel_rfl
theorem eq25 : eqOk Try.prog 25 = some [SK.i IntKind.i64, SK.i IntKind.i64] := by kernel_rfl
theorem ti26 : tinf Try.prog 26 = some { d := TD.other, size := 1, bytes := 0, zero := [PVal.top] } := by kernel_rfl
theorem ag26 : aggSize Try.prog 26 = some none := by kernel_rfl
theorem sz26 : szOf Try.prog 26 = some 1 := by kernel_rfl
theorem ti27 : tinf Try.prog 27 = some { d := TD.other, size := 1, bytes := 8, zero := [PVal.top] } := by kernel_rfl
theorem ag27 : aggSize Try.prog 27 = some none := by kernel_rfl
theorem sz27 : szOf Try.prog 27 = some 1 := by kernel_rfl
theorem ti28 : tinf Try.prog 28 = some { d := TD.other, size := 1, bytes := 8, zero := [PVal.top] } := by kernel_rfl
theorem ag28 : aggSize Try.prog 28 = some none := by kernel_rfl
theorem sz28 : szOf Try.prog 28 = some 1 := by kernel_rfl
theorem ti29 : tinf Try.prog 29 = some { d := TD.other, size := 1, bytes := 8, zero := [PVal.top] } := by kernel_rfl
theorem ag29 : aggSize Try.prog 29 = some none := by kernel_rfl
theorem sz29 : szOf Try.prog 29 = some 1 := by kernel_rfl
theorem ti30 : tinf Try.prog 30 = some { d := TD.other, size := 1, bytes := 8, zero := [PVal.top] } := by kernel_rfl
theorem ag30 : aggSize Try.prog 30 = some none := by kernel_rfl
theorem sz30 : szOf Try.prog 30 = some 1 := by kernel_rfl
theorem ti31 : tinf Try.prog 31 = some { d := TD.other, size := 1, bytes := 0, zero := [PVal.top] } := by kernel_rfl
theorem ag31 : aggSize Try.prog 31 = some none := by kernel_rfl
theorem sz31 : szOf Try.prog 31 = some 1 := by kernel_rfl
theorem ti32 : tinf Try.prog 32 = some { d := TD.other, size := 1, bytes := 8, zero := [PVal.top] } := by kernel_rfl
theorem ag32 : aggSize Try.prog 32 = some none := by kernel_rfl
theorem sz32 : szOf Try.prog 32 = some 1 := by kernel_rfl
theorem ti33 : tinf Try.prog 33 = some { d := TD.other, size := 1, bytes := 8, zero := [PVal.top] } := by kernel_rfl
theorem ag33 : aggSize Try.prog 33 = some none := by kernel_rfl
theorem sz33 : szOf Try.prog 33 = some 1 := by kernel_rfl
theorem ti34 : tinf Try.prog 34 = some { d := TD.slice 79, size := 1, bytes := 24, zero := [PVal.nilS] } := by kernel_rfl
theorem ag34 : aggSize Try.prog 34 = some none := by kernel_rfl
theorem sz34 : szOf Try.prog 34 = some 1 := by kernel_rfl
theorem ti35 : tinf Try.prog 35 = some { d := TD.slice 58, size := 1, bytes := 24, zero := [PVal.nilS] } := by kernel_rfl
theorem ag35 : aggSize Try.prog 35 = some none := by kernel_rfl
theorem sz35 : szOf Try.prog 35 = some 1 := by kernel_rfl
theorem ti36 : tinf Try.prog 36 = some { d := TD.slice 67, size := 1, bytes := 24, zero := [PVal.nilS] } := by kernel_rfl
theorem ag36 : aggSize Try.prog 36 = some none := by kernel_rfl
theorem sz36 : szOf Try.prog 36 = some 1 := by kernel_rfl
theorem ti37 : tinf Try.prog 37 = some { d := TD.slice 117, size := 1, bytes := 24, zero := [PVal.nilS] } := by kernel_rfl
theorem ag37 : aggSize Try.prog 37 = some none := by kernel_rfl
theorem sz37 : szOf Try.prog 37 = some 1 := by kernel_rfl
theorem ti38 : tinf Try.prog 38 = some { d := TD.slice 5, size := 1, bytes := 24, zero := [PVal.nilS] } := by kernel_rfl
theorem ag38 : aggSize Try.prog 38 = some none := by kernel_rfl
theorem sz38 : szOf Try.prog 38 = some 1 := by kernel_rfl
theorem ti39 : tinf Try.prog 39 = some { d := TD.slice 9, size := 1, bytes := 24, zero := [PVal.nilS] } := by kernel_rfl
theorem ag39 : aggSize Try.prog 39 = some none := by kernel_rfl
theorem sz39 : szOf Try.prog 39 = some 1 := by kernel_rfl
theorem ti40 : tinf Try.prog 40 = some { d := TD.slice 148, size := 1, bytes := 24, zero := [PVal.nilS] } := by kernel_rfl
theorem ag40 : aggSize Try.prog 40 = some none := by kernel_rfl
theorem sz40 : szOf Try.prog 40 = some 1 := by kernel_rfl
theorem ti41 : tinf Try.prog 41 = some { d := TD.slice 150, size := 1, bytes := 24, zero := [PVal.nilS] } := by kernel_rfl
theorem ag41 : aggSize Try.prog 41 = some none := by kernel_rfl
theorem sz41 : szOf Try.prog 41 = some 1 := by kernel_rfl
theorem ti42 : tinf Try.prog 42 = some { d := TD.slice 163, size := 1, bytes := 24, zero := [PVal.nilS] } := by kernel_rfl
theorem ag42 : aggSize Try.prog 42 = some none := by kernel_rfl
theorem sz42 : szOf Try.prog 42 = some 1 := by kernel_rfl
theorem ti43 : tinf Try.prog 43 = some { d := TD.slice 153, size := 1, bytes := 24, zero := [PVal.nilS] } := by kernel_rfl
theorem ag43 : aggSize Try.prog 43 = some none := by kernel_rfl
theorem sz43 : szOf Try.prog 43 = some 1 := by kernel_rfl
theorem ti44 : tinf Try.prog 44 = some { d := TD.slice 156, size := 1, bytes := 24, zero := [PVal.nilS] } := by kernel_rfl
theorem ag44 : aggSize Try.prog 44 = some none := by kernel_rfl
theorem sz44 : szOf Try.prog 44 = some 1 := by kernel_rfl
theorem ti45 : tinf Try.prog 45 = some { d := TD.struct [(9, 0), (4, 1), (34, 2), (3, 3), (35, 4), (36, 5), (37, 6), (38, 7), (3, 8), (23, 9), (23, 10), (39, 11), (3, 12), (40, 13), (41, 14), (39, 15), (42, 16), (43, 17), (44, 18)], size := 19, bytes := 384, zero := [PVal.dat (Dat.str { data := { toList := [] } }), PVal.dat (Dat.bool false), PVal.nilS, PVal.dat (Dat.int IntKind.i64 (0)), PVal.nilS, PVal.nilS, PVal.nilS, PVal.nilS, PVal.dat (Dat.int IntKind.i64 (0)), PVal.nilS, PVal.nilS, PVal.nilS, PVal.dat (Dat.int IntKind.i64 (0)), PVal.nilS, PVal.nilS, PVal.nilS, PVal.nilS, PVal.nilS, PVal.nilS] } := by kernel_rfl
theorem so45 : sizesOf Try.prog [(9, 0), (4, 1), (34, 2), (3, 3), (35, 4), (36, 5), (37, 6), (38, 7), (3, 8), (23, 9), (23, 10), (39, 11), (3, 12), (40, 13), (41, 14), (39, 15), (42, 16), (43, 17), (44, 18)] = some [(0, 1), (1, 1), (2, 1), (3, 1), (4, 1), (5, 1), (6, 1), (7, 1), (8, 1), (9, 1), (10, 1), (11, 1), (12, 1), (13, 1), (14, 1), (15, 1), (16, 1), (17, 1), (18, 1)] := by kernel_rfl
theorem ag45 : aggSize Try.prog 45 = some (some 19) := by kernel_rfl
theorem sz45 : szOf Try.prog 45 = some 19 := by kernel_rfl
theorem ti46 : tinf Try.prog 46 = some { d := TD.struct [(9, 0), (4, 1), (34, 2), (3, 3), (35, 4), (36, 5), (37, 6), (38, 7), (3, 8), (23, 9), (23, 10), (39, 11), (3, 12), (40, 13), (41, 14), (39, 15), (42, 16), (43, 17), (44, 18)], size := 19, bytes := 384, zero := [PVal.dat (Dat.str { data := { toList := [] } }), PVal.dat (Dat.bool false), PVal.nilS, PVal.dat (Dat.int IntKind.i64 (0)), PVal.nilS, PVal.nilS, PVal.nilS, PVal.nilS, PVal.dat (Dat.int IntKind.i64 (0)), PVal.nilS, PVal.nilS, PVal.nilS, PVal.dat (Dat.int IntKind.i64 (0)), PVal.nilS, PVal.nilS, PVal.nilS, PVal.nilS, PVal.nilS, PVal.nilS] } := by kernel_rfl
theorem so46 : sizesOf Try.prog [(9, 0), (4, 1), (34, 2), (3, 3), (35, 4), (36, 5), (37, 6), (38, 7), (3, 8), (23, 9), (23, 10), (39, 11), (3, 12), (40, 13), (41, 14), (39, 15), (42, 16), (43, 17), (44, 18)] = some [(0, 1), (1, 1), (2, 1), (3, 1), (4, 1), (5, 1), (6, 1), (7, 1), (8, 1), (9, 1), (10, 1), (11, 1), (12, 1), (13, 1), (14, 1), (15, 1), (16, 1), (17, 1), (18, 1)] := by kernel_rfl
theorem ag46 : aggSize Try.prog 46 = some (some 19) := by kernel_rfl
theorem sz46 : szOf Try.prog 46 = some 19 := by kernel_rfl
theorem ti47 : tinf Try.prog 47 = some { d := TD.other, size := 1, bytes := 8, zero := [PVal.top] } := by kernel_rfl
theorem ag47 : aggSize Try.prog 47 = some none := by kernel_rfl
theorem sz47 : szOf Try.prog 47 = some 1 := by kernel_rfl
theorem ti48 : tinf Try.prog 48 = some { d := TD.other, size := 1, bytes := 8, zero := [PVal.top] } := by kernel_rfl
theorem ag48 : aggSize Try.prog 48 = some none := by kernel_rfl
theorem sz48 : szOf Try.prog 48 = some 1 := by kernel_rfl
theorem ti49 : tinf Try.prog 49 = some { d := TD.slice 52, size := 1, bytes := 24, zero := [PVal.nilS] } := by kernel_rfl
theorem ag49 : aggSize Try.prog 49 = some none := by kernel_rfl
theorem sz49 : szOf Try.prog 49 = some 1 := by kernel_rfl
theorem ti50 : tinf Try.prog 50 = some { d := TD.other, size := 1, bytes := 8, zero := [PVal.top] } := by kernel_rfl
theorem ag50 : aggSize Try.prog 50 = some none := by kernel_rfl
theorem sz50 : szOf Try.prog 50 = some 1 := by kernel_rfl
theorem ti51 : tinf Try.prog 51 = some { d := TD.struct [(46, 0), (3, 19), (3, 20), (3, 21)], size := 22, bytes := 408, zero := [PVal.dat (Dat.str { data := { toList := [] } }), PVal.dat (Dat.bool false), PVal.nilS, PVal.dat (Dat.int IntKind.i64 (0)), PVal.nilS, PVal.nilS, PVal.nilS, PVal.nilS, PVal.dat (Dat.int IntKind.i64 (0)), PVal.nilS, PVal.nilS, PVal.nilS, PVal.dat (Dat.int IntKind.i64 (0)), PVal.nilS, PVal.nilS, PVal.nilS, PVal.nilS, PVal.nilS, PVal.nilS, PVal.dat (Dat.int IntKind.i64 (0)), PVal.dat (Dat.int IntKind.i64 (0)), PVal.dat (Dat.int IntKind.i64 (0))] } := by kernel_rfl
theorem so51 : sizesOf Try.prog [(46, 0), (3, 19), (3, 20), (3, 21)] = some [(0, 19), (19, 1), (20, 1), (21, 1)] := by kernel_rfl
theorem ag51 : aggSize Try.prog 51 = some (some 22) := by kernel_rfl
theorem sz51 : szOf Try.prog 51 = some 22 := by kernel_rfl
theorem ti52 : tinf Try.prog 52 = some { d := TD.struct [(46, 0), (3, 19), (3, 20), (3, 21)], size := 22, bytes := 408, zero := [PVal.dat (Dat.str { data := { toList := [] } }), PVal.dat (Dat.bool false), PVal.nilS, PVal.dat (Dat.int IntKind.i64 (0)), PVal.nilS, PVal.nilS, PVal.nilS, PVal.nilS, PVal.dat (Dat.int IntKind.i64 (0)), PVal.nilS, PVal.nilS, PVal.nilS, PVal.dat (Dat.int IntKind.i64 (0)), PVal.nilS, PVal.nilS, PVal.nilS, PVal.nilS, PVal.nilS, PVal.nilS, PVal.dat (Dat.int IntKind.i64 (0)), PVal.dat (Dat.int IntKind.i64 (0)), PVal.dat (Dat.int IntKind.i64 (0))] } := by kernel_rfl
theorem so52 : sizesOf Try.prog [(46, 0), (3, 19), (3, 20), (3, 21)] = some [(0, 19), (19, 1), (20, 1), (21, 1)] := by kernel_rfl
theorem ag52 : aggSize Try.prog 52 = some (some 22) := by kernel_rfl
theorem sz52 : szOf Try.prog 52 = some 22 := by kernel_rfl
theorem ti53 : tinf Try.prog 53 = some { d := TD.other, size := 1, bytes := 8, zero := [PVal.top] } := by kernel_rfl
theorem ag53 : aggSize Try.prog 53 = some none := by kernel_rfl
theorem sz53 : szOf Try.prog 53 = some 1 := by kernel_rfl
theorem ti54 : tinf Try.prog 54 = some { d := TD.slice 60, size := 1, bytes := 24, zero := [PVal.nilS] } := by kernel_rfl
theorem ag54 : aggSize Try.prog 54 = some none := by kernel_rfl
theorem sz54 : szOf Try.prog 54 = some 1 := by kernel_rfl
theorem ti55 : tinf Try.prog 55 = some { d := TD.other, size := 1, bytes := 0, zero := [PVal.top] } := by kernel_rfl
theorem ag55 : aggSize Try.prog 55 = some none := by kernel_rfl
theorem sz55 : szOf Try.prog 55 = some 1 := by kernel_rfl
theorem ti56 : tinf Try.prog 56 = some { d := TD.other, size := 1, bytes := 8, zero := [PVal.top] } := by kernel_rfl
theorem ag56 : aggSize Try.prog 56 = some none := by kernel_rfl
theorem sz56 : szOf Try.prog 56 = some 1 := by kernel_rfl
theorem ti57 : tinf Try.prog 57 = some { d := TD.struct [(9, 0), (9, 1), (4, 2), (4, 3), (4, 4), (3, 5), (3, 6)], size := 7, bytes := 56, zero := [PVal.dat (Dat.str { data := { toList := [] } }), PVal.dat (Dat.str { data := { toList := [] } }), PVal.dat (Dat.bool false), PVal.dat (Dat.bool false), PVal.dat (Dat.bool false), PVal.dat (Dat.int IntKind.i64 (0)), PVal.dat (Dat.int IntKind.i64 (0))] } := by kernel_rfl
theorem so57 : sizesOf Try.prog [(9, 0), (9, 1), (4, 2), (4, 3), (4, 4), (3, 5), (3, 6)] = some [(0, 1), (1, 1), (2, 1), (3, 1), (4, 1), (5, 1), (6, 1)] := by kernel_rfl
theorem ag57 : aggSize Try.prog 57 = some (some 7) := by kernel_rfl
theorem sz57 : szOf Try.prog 57 = some 7 := by kernel_rfl
theorem eq57 : eqOk Try.prog 57 = some [SK.s, SK.s, SK.b, SK.b, SK.b, SK.i IntKind.i64, SK.i IntKind.i64] := by kernel_rfl
theorem ti58 : tinf Try.prog 58 = some { d := TD.struct [(9, 0), (9, 1), (4, 2), (4, 3), (4, 4), (3, 5), (3, 6)], size := 7, bytes := 56, zero := [PVal.dat (Dat.str { data := { toList := [] } }), PVal.dat (Dat.str { data := { toList := [] } }), PVal.dat (Dat.bool false), PVal.dat (Dat.bool false), PVal.dat (Dat.bool false), PVal.dat (Dat.int IntKind.i64 (0)), PVal.dat (Dat.int IntKind.i64 (0))] } := by kernel_rfl
theorem so58 : sizesOf Try.prog [(9, 0), (9, 1), (4, 2), (4, 3), (4, 4), (3, 5), (3, 6)] = some [(0, 1), (1, 1), (2, 1), (3, 1), (4, 1), (5, 1), (6, 1)] := by kernel_rfl
theorem ag58 : aggSize Try.prog 58 = some (some 7) := by kernel_rfl
theorem sz58 : szOf Try.prog 58 = some 7 := by kernel_rfl
theorem eq58 : eqOk Try.prog 58 = some [SK.s, SK.s, SK.b, SK.b, SK.b, SK.i IntKind.i64, SK.i IntKind.i64] := by kernel_rfl
theorem ti59 : tinf Try.prog 59 = some { d := TD.struct [(3, 0), (3, 1), (3, 2)], size := 3, bytes := 24, zero := [PVal.dat (Dat.int IntKind.i64 (0)), PVal.dat (Dat.int IntKind.i64 (0)), PVal.dat (Dat.int IntKind.i64 (0))] } := by kernel_rfl
theorem so59 : sizesOf Try.prog [(3, 0), (3, 1), (3, 2)] = some [(0, 1), (1, 1), (2, 1)] := by kernel_rfl
theorem ag59 : aggSize Try.prog 59 = some (some 3) := by kernel_rfl
theorem sz59 : szOf Try.prog 59 = some 3 := by kernel_rfl
theorem eq59 : eqOk Try.prog 59 = some [SK.i IntKind.i64, SK.i IntKind.i64, SK.i IntKind.i64] := by kernel_rfl
theorem ti60 : tinf Try.prog 60 = some { d := TD.struct [(3, 0), (3, 1), (3, 2)], size := 3, bytes := 24, zero := [PVal.dat (Dat.int IntKind.i64 (0)), PVal.dat (Dat.int IntKind.i64 (0)), PVal.dat (Dat.int IntKind.i64 (0))] } := by kernel_rfl
theorem so60 : sizesOf Try.prog [(3, 0), (3, 1), (3, 2)] = some [(0, 1), (1, 1), (2, 1)] := by kernel_rfl
theorem ag60 : aggSize Try.prog 60 = some (some 3) := by kernel_rfl
theorem sz60 : szOf Try.prog 60 = some 3 := by kernel_rfl
theorem eq60 : eqOk Try.prog 60 = some [SK.i IntKind.i64, SK.i IntKind.i64, SK.i IntKind.i64] := by kernel_rfl
theorem ti61 : tinf Try.prog 61 = some { d := TD.other, size := 1, bytes := 0, zero := [PVal.top] } := by kernel_rfl
theorem ag61 : aggSize Try.prog 61 = some none := by kernel_rfl
theorem sz61 : szOf Try.prog 61 = some 1 := by kernel_rfl
theorem ti62 : tinf Try.prog 62 = some { d := TD.other, size := 1, bytes := 8, zero := [PVal.top] } := by kernel_rfl
theorem ag62 : aggSize Try.prog 62 = some none := by kernel_rfl
theorem sz62 : szOf Try.prog 62 = some 1 := by kernel_rfl
theorem ti63 : tinf Try.prog 63 = some { d := TD.other, size := 1, bytes := 8, zero := [PVal.top] } := by kernel_rfl
theorem ag63 : aggSize Try.prog 63 = some none := by kernel_rfl
theorem sz63 : szOf Try.prog 63 = some 1 := by kernel_rfl
theorem ti64 : tinf Try.prog 64 = some { d := TD.other, size := 1, bytes := 0, zero := [PVal.top] } := by kernel_rfl
theorem ag64 : aggSize Try.prog 64 = some none := by kernel_rfl
theorem sz64 : szOf Try.prog 64 = some 1 := by kernel_rfl
theorem ti65 : tinf Try.prog 65 = some { d := TD.other, size := 1, bytes := 8, zero := [PVal.top] } := by kernel_rfl
theorem ag65 : aggSize Try.prog 65 = some none := by kernel_rfl
theorem sz65 : szOf Try.prog 65 = some 1 := by kernel_rfl
theorem ti66 : tinf Try.prog 66 = some { d := TD.struct [(9, 0), (9, 1), (4, 2), (3, 3), (3, 4), (3, 5)], size := 6, bytes := 64, zero := [PVal.dat (Dat.str { data := { toList := [] } }), PVal.dat (Dat.str { data := { toList := [] } }), PVal.dat (Dat.bool false), PVal.dat (Dat.int IntKind.i64 (0)), PVal.dat (Dat.int IntKind.i64 (0)), PVal.dat (Dat.int IntKind.i64 (0))] } := by kernel_rfl
theorem so66 : sizesOf Try.prog [(9, 0), (9, 1), (4, 2), (3, 3), (3, 4), (3, 5)] = some [(0, 1), (1, 1), (2, 1), (3, 1), (4, 1), (5, 1)] := by kernel_rfl
theorem ag66 : aggSize Try.prog 66 = some (some 6) := by kernel_rfl
theorem sz66 : szOf Try.prog 66 = some 6 := by kernel_rfl
theorem eq66 : eqOk Try.prog 66 = some [SK.s, SK.s, SK.b, SK.i IntKind.i64, SK.i IntKind.i64, SK.i IntKind.i64] := by kernel_rfl
theorem ti67 : tinf Try.prog 67 = some { d := TD.struct [(9, 0), (9, 1), (4, 2), (3, 3), (3, 4), (3, 5)], size := 6, bytes := 64, zero := [PVal.dat (Dat.str { data := { toList := [] } }), PVal.dat (Dat.str { data := { toList := [] } }), PVal.dat (Dat.bool false), PVal.dat (Dat.int IntKind.i64 (0)), PVal.dat (Dat.int IntKind.i64 (0)), PVal.dat (Dat.int IntKind.i64 (0))] } := by kernel_rfl
theorem so67 : sizesOf Try.prog [(9, 0), (9, 1), (4, 2), (3, 3), (3, 4), (3, 5)] = some [(0, 1), (1, 1), (2, 1), (3, 1), (4, 1), (5, 1)] := by kernel_rfl
theorem ag67 : aggSize Try.prog 67 = some (some 6) := by kernel_rfl
theorem sz67 : szOf Try.prog 67 = some 6 := by kernel_rfl
theorem eq67 : eqOk Try.prog 67 = some [SK.s, SK.s, SK.b, SK.i IntKind.i64, SK.i IntKind.i64, SK.i IntKind.i64] := by kernel_rfl
theorem ti68 : tinf Try.prog 68 = some { d := TD.other, size := 1, bytes := 8, zero := [PVal.top] } := by kernel_rfl
theorem ag68 : aggSize Try.prog 68 = some none := by kernel_rfl
theorem sz68 : szOf Try.prog 68 = some 1 := by kernel_rfl
theorem ti69 : tinf Try.prog 69 = some { d := TD.slice 74, size := 1, bytes := 24, zero := [PVal.nilS] } := by kernel_rfl
theorem ag69 : aggSize Try.prog 69 = some none := by kernel_rfl
theorem sz69 : szOf Try.prog 69 = some 1 := by kernel_rfl
theorem ti70 : tinf Try.prog 70 = some { d := TD.other, size := 1, bytes := 0, zero := [PVal.top] } := by kernel_rfl
theorem ag70 : aggSize Try.prog 70 = some none := by kernel_rfl
theorem sz70 : szOf Try.prog 70 = some 1 := by kernel_rfl
theorem ti71 : tinf Try.prog 71 = some { d := TD.other, size := 1, bytes := 8, zero := [PVal.top] } := by kernel_rfl
theorem ag71 : aggSize Try.prog 71 = some none := by kernel_rfl
theorem sz71 : szOf Try.prog 71 = some 1 := by kernel_rfl
theorem ti72 : tinf Try.prog 72 = some { d := TD.int IntKind.u32, size := 1, bytes := 4, zero := [PVal.dat (Dat.int IntKind.u32 (0))] } := by kernel_rfl
theorem ag72 : aggSize Try.prog 72 = some none := by kernel_rfl
theorem sz72 : szOf Try.prog 72 = some 1 := by kernel_rfl
theorem ti73 : tinf Try.prog 73 = some { d := TD.struct [(3, 0), (72, 1)], size := 2, bytes := 16, zero := [PVal.dat (Dat.int IntKind.i64 (0)), PVal.dat (Dat.int IntKind.u32 (0))] } := by kernel_rfl
theorem so73 : sizesOf Try.prog [(3, 0), (72, 1)] = some [(0, 1), (1, 1)] := by kernel_rfl
theorem ag73 : aggSize Try.prog 73 = some (some 2) := by kernel_rfl
theorem sz73 : szOf Try.prog 73 = some 2 := by kernel_rfl
theorem eq73 : eqOk Try.prog 73 = some [SK.i IntKind.i64, SK.i IntKind.u32] := by kernel_rfl
theorem ti74 : tinf Try.prog 74 = some { d := TD.struct [(3, 0), (72, 1)], size := 2, bytes := 16, zero := [PVal.dat (Dat.int IntKind.i64 (0)), PVal.dat (Dat.int IntKind.u32 (0))] } := by kernel_rfl
theorem so74 : sizesOf Try.prog [(3, 0), (72, 1)] = some [(0, 1), (1, 1)] := by kernel_rfl
theorem ag74 : aggSize Try.prog 74 = some (some 2) := by kernel_rfl
theorem sz74 : szOf Try.prog 74 = some 2 := by kernel_rfl
theorem eq74 : eqOk Try.prog 74 = some [SK.i IntKind.i64, SK.i IntKind.u32] := by kernel_rfl
theorem ti75 : tinf Try.prog 75 = some { d := TD.other, size := 1, bytes := 0, zero := [PVal.top] } := by kernel_rfl
theorem ag75 : aggSize Try.prog 75 = some none := by kernel_rfl
theorem sz75 : szOf Try.prog 75 = some 1 := by kernel_rfl
theorem ti76 : tinf Try.prog 76 = some { d := TD.other, size := 1, bytes := 8, zero := [PVal.top] } := by kernel_rfl
theorem ag76 : aggSize Try.prog 76 = some none := by kernel_rfl
theorem sz76 : szOf Try.prog 76 = some 1 := by kernel_rfl
theorem ti77 : tinf Try.prog 77 = some { d := TD.other, size := 1, bytes := 8, zero := [PVal.top] } := by kernel_rfl
theorem ag77 : aggSize Try.prog 77 = some none := by kernel_rfl
theorem sz77 : szOf Try.prog 77 = some 1 := by kernel_rfl
theorem ti78 : tinf Try.prog 78 = some { d := TD.struct [(3, 0), (3, 1), (3, 2), (38, 3)], size := 4, bytes := 48, zero := [PVal.dat (Dat.int IntKind.i64 (0)), PVal.dat (Dat.int IntKind.i64 (0)), PVal.dat (Dat.int IntKind.i64 (0)), PVal.nilS] } := by kernel_rfl
theorem so78 : sizesOf Try.prog [(3, 0), (3, 1), (3, 2), (38, 3)] = some [(0, 1), (1, 1), (2, 1), (3, 1)] := by kernel_rfl
theorem ag78 : aggSize Try.prog 78 = some (some 4) := by kernel_rfl
theorem sz78 : szOf Try.prog 78 = some 4 := by kernel_rfl
theorem ti79 : tinf Try.prog 79 = some { d := TD.struct [(3, 0), (3, 1), (3, 2), (38, 3)], size := 4, bytes := 48, zero := [PVal.dat (Dat.int IntKind.i64 (0)), PVal.dat (Dat.int IntKind.i64 (0)), PVal.dat (Dat.int IntKind.i64 (0)), PVal.nilS] } := by kernel_rfl
theorem so79 : sizesOf Try.prog [(3, 0), (3, 1), (3, 2), (38, 3)] = some [(0, 1), (1, 1), (2, 1), (3, 1)] := by kernel_rfl
theorem ag79 : aggSize Try.prog 79 = some (some 4) := by kernel_rfl
theorem sz79 : szOf Try.prog 79 = some 4 := by kernel_rfl
theorem ti80 : tinf Try.prog 80 = some { d := TD.other, size := 1, bytes := 8, zero := [PVal.top] } := by kernel_rfl
theorem ag80 : aggSize Try.prog 80 = some none := by kernel_rfl
theorem sz80 : szOf Try.prog 80 = some 1 := by kernel_rfl
theorem ti81 : tinf Try.prog 81 = some { d := TD.other, size := 1, bytes := 8, zero := [PVal.top] } := by kernel_rfl
theorem ag81 : aggSize Try.prog 81 = some none := by kernel_rfl
theorem sz81 : szOf Try.prog 81 = some 1 := by kernel_rfl
theorem ti82 : tinf Try.prog 82 = some { d := TD.slice 23, size := 1, bytes := 24, zero := [PVal.nilS] } := by kernel_rfl
theorem ag82 : aggSize Try.prog 82 = some none := by kernel_rfl
theorem sz82 : szOf Try.prog 82 = some 1 := by kernel_rfl
theorem ti83 : tinf Try.prog 83 = some { d := TD.other, size := 1, bytes := 0, zero := [PVal.top] } := by kernel_rfl
theorem ag83 : aggSize Try.prog 83 = some none := by kernel_rfl
theorem sz83 : szOf Try.prog 83 = some 1 := by kernel_rfl
theorem ti84 : tinf Try.prog 84 = some { d := TD.other, size := 1, bytes := 8, zero := [PVal.top] } := by kernel_rfl
theorem ag84 : aggSize Try.prog 84 = some none := by kernel_rfl
theorem sz84 : szOf Try.prog 84 = some 1 := by kernel_rfl
theorem ti85 : tinf Try.prog 85 = some { d := TD.other, size := 1, bytes := 8, zero := [PVal.top] } := by kernel_rfl
theorem ag85 : aggSize Try.prog 85 = some none := by kernel_rfl
theorem sz85 : szOf Try.prog 85 = some 1 := by kernel_rfl
theorem ti86 : tinf Try.prog 86 = some { d := TD.other, size := 1, bytes := 8, zero := [PVal.top] } := by kernel_rfl
theorem ag86 : aggSize Try.prog 86 = some none := by kernel_rfl
theorem sz86 : szOf Try.prog 86 = some 1 := by kernel_rfl
theorem ti87 : tinf Try.prog 87 = some { d := TD.other, size := 1, bytes := 8, zero := [PVal.top] } := by kernel_rfl
theorem ag87 : aggSize Try.prog 87 = some none := by kernel_rfl
theorem sz87 : szOf Try.prog 87 = some 1 := by kernel_rfl
theorem ti88 : tinf Try.prog 88 = some { d := TD.other, size := 1, bytes := 8, zero := [PVal.top] } := by kernel_rfl
theorem ag88 : aggSize Try.prog 88 = some none := by kernel_rfl
theorem sz88 : szOf Try.prog 88 = some 1 := by kernel_rfl
theorem ti89 : tinf Try.prog 89 = some { d := TD.other, size := 1, bytes := 8, zero := [PVal.top] } := by kernel_rfl
theorem ag89 : aggSize Try.prog 89 = some none := by kernel_rfl
theorem sz89 : szOf Try.prog 89 = some 1 := by kernel_rfl
theorem ti90 : tinf Try.prog 90 = some { d := TD.other, size := 1, bytes := 8, zero := [PVal.top] } := by kernel_rfl
theorem ag90 : aggSize Try.prog 90 = some none := by kernel_rfl
theorem sz90 : szOf Try.prog 90 = some 1 := by kernel_rfl
theorem ti91 : tinf Try.prog 91 = some { d := TD.other, size := 1, bytes := 8, zero := [PVal.top] } := by kernel_rfl
theorem ag91 : aggSize Try.prog 91 = some none := by kernel_rfl
theorem sz91 : szOf Try.prog 91 = some 1 := by kernel_rfl
theorem ti92 : tinf Try.prog 92 = some { d := TD.slice 93, size := 1, bytes := 24, zero := [PVal.nilS] } := by kernel_rfl
theorem ag92 : aggSize Try.prog 92 = some none := by kernel_rfl
theorem sz92 : szOf Try.prog 92 = some 1 := by kernel_rfl
theorem ti93 : tinf Try.prog 93 = some { d := TD.slice 4, size := 1, bytes := 24, zero := [PVal.nilS] } := by kernel_rfl
theorem ag93 : aggSize Try.prog 93 = some none := by kernel_rfl
theorem sz93 : szOf Try.prog 93 = some 1 := by kernel_rfl
theorem ti94 : tinf Try.prog 94 = some { d := TD.other, size := 1, bytes := 8, zero := [PVal.top] } := by kernel_rfl
theorem ag94 : aggSize Try.prog 94 = some none := by kernel_rfl
theorem sz94 : szOf Try.prog 94 = some 1 := by kernel_rfl
theorem ti95 : tinf Try.prog 95 = some { d := TD.other, size := 1, bytes := 8, zero := [PVal.top] } := by kernel_rfl
theorem ag95 : aggSize Try.prog 95 = some none := by kernel_rfl
theorem sz95 : szOf Try.prog 95 = some 1 := by kernel_rfl
theorem ti96 : tinf Try.prog 96 = some { d := TD.other, size := 1, bytes := 8, zero := [PVal.top] } := by kernel_rfl
theorem ag96 : aggSize Try.prog 96 = some none := by kernel_rfl
theorem sz96 : szOf Try.prog 96 = some 1 := by kernel_rfl
theorem ti97 : tinf Try.prog 97 = some { d := TD.other, size := 1, bytes := 8, zero := [PVal.top] } := by kernel_rfl
theorem ag97 : aggSize Try.prog 97 = some none := by kernel_rfl
theorem sz97 : szOf Try.prog 97 = some 1 := by kernel_rfl
theorem ti98 : tinf Try.prog 98 = some { d := TD.other, size := 1, bytes := 8, zero := [PVal.top] } := by kernel_rfl
theorem ag98 : aggSize Try.prog 98 = some none := by kernel_rfl
theorem sz98 : szOf Try.prog 98 = some 1 := by kernel_rfl
theorem ti99 : tinf Try.prog 99 = some { d := TD.other, size := 1, bytes := 8, zero := [PVal.top] } := by kernel_rfl
theorem ag99 : aggSize Try.prog 99 = some none := by kernel_rfl
theorem sz99 : szOf Try.prog 99 = some 1 := by kernel_rfl
theorem ti100 : tinf Try.prog 100 = some { d := TD.other, size := 1, bytes := 0, zero := [PVal.top] } := by kernel_rfl
theorem ag100 : aggSize Try.prog 100 = some none := by kernel_rfl
theorem sz100 : szOf Try.prog 100 = some 1 := by kernel_rfl
theorem ti101 : tinf Try.prog 101 = some { d := TD.struct [(49, 0), (22, 1), (23, 2)], size := 3, bytes := 72, zero := [PVal.nilS, PVal.nilS, PVal.nilS] } := by kernel_rfl
theorem so101 : sizesOf Try.prog [(49, 0), (22, 1), (23, 2)] = some [(0, 1), (1, 1), (2, 1)] := by kernel_rfl
theorem ag101 : aggSize Try.prog 101 = some (some 3) := by kernel_rfl
theorem sz101 : szOf Try.prog 101 = some 3 := by kernel_rfl
theorem ti102 : tinf Try.prog 102 = some { d := TD.struct [(49, 0), (22, 1), (23, 2)], size := 3, bytes := 72, zero := [PVal.nilS, PVal.nilS, PVal.nilS] } := by kernel_rfl
theorem so102 : sizesOf Try.prog [(49, 0), (22, 1), (23, 2)] = some [(0, 1), (1, 1), (2, 1)] := by kernel_rfl
theorem ag102 : aggSize Try.prog 102 = some (some 3) := by kernel_rfl
theorem sz102 : szOf Try.prog 102 = some 3 := by kernel_rfl
theorem ti103 : tinf Try.prog 103 = some { d := TD.other, size := 1, bytes := 8, zero := [PVal.top] } := by kernel_rfl
theorem ag103 : aggSize Try.prog 103 = some none := by kernel_rfl
theorem sz103 : szOf Try.prog 103 = some 1 := by kernel_rfl
theorem ti104 : tinf Try.prog 104 = some { d := TD.other, size := 1, bytes := 8, zero := [PVal.top] } := by kernel_rfl
theorem ag104 : aggSize Try.prog 104 = some none := by kernel_rfl
theorem sz104 : szOf Try.prog 104 = some 1 := by kernel_rfl
theorem ti105 : tinf Try.prog 105 = some { d := TD.other, size := 1, bytes := 8, zero := [PVal.top] } := by kernel_rfl
theorem ag105 : aggSize Try.prog 105 = some none := by kernel_rfl
theorem sz105 : szOf Try.prog 105 = some 1 := by kernel_rfl
theorem ti106 : tinf Try.prog 106 = some { d := TD.other, size := 1, bytes := 8, zero := [PVal.top] } := by kernel_rfl
theorem ag106 : aggSize Try.prog 106 = some none := by kernel_rfl
theorem sz106 : szOf Try.prog 106 = some 1 := by kernel_rfl
theorem ti107 : tinf Try.prog 107 = some { d := TD.other, size := 1, bytes := 8, zero := [PVal.top] } := by kernel_rfl
theorem ag107 : aggSize Try.prog 107 = some none := by kernel_rfl
theorem sz107 : szOf Try.prog 107 = some 1 := by kernel_rfl
theorem ti108 : tinf Try.prog 108 = some { d := TD.other, size := 1, bytes := 8, zero := [PVal.top] } := by kernel_rfl
theorem ag108 : aggSize Try.prog 108 = some none := by kernel_rfl
theorem sz108 : szOf Try.prog 108 = some 1 := by kernel_rfl
theorem ti109 : tinf Try.prog 109 = some { d := TD.other, size := 1, bytes := 8, zero := [PVal.top] } := by kernel_rfl
theorem ag109 : aggSize Try.prog 109 = some none := by kernel_rfl
theorem sz109 : szOf Try.prog 109 = some 1 := by kernel_rfl
theorem ti110 : tinf Try.prog 110 = some { d := TD.other, size := 1, bytes := 8, zero := [PVal.top] } := by kernel_rfl
theorem ag110 : aggSize Try.prog 110 = some none := by kernel_rfl
theorem sz110 : szOf Try.prog 110 = some 1 := by kernel_rfl
theorem ti111 : tinf Try.prog 111 = some { d := TD.other, size := 1, bytes := 8, zero := [PVal.top] } := by kernel_rfl
theorem ag111 : aggSize Try.prog 111 = some none := by kernel_rfl
theorem sz111 : szOf Try.prog 111 = some 1 := by kernel_rfl
theorem ti112 : tinf Try.prog 112 = some { d := TD.struct [(52, 0), (67, 22), (3, 28), (3, 29)], size := 30, bytes := 488, zero := [PVal.dat (Dat.str { data := { toList := [] } }), PVal.dat (Dat.bool false), PVal.nilS, PVal.dat (Dat.int IntKind.i64 (0)), PVal.nilS, PVal.nilS, PVal.nilS, PVal.nilS, PVal.dat (Dat.int IntKind.i64 (0)), PVal.nilS, PVal.nilS, PVal.nilS, PVal.dat (Dat.int IntKind.i64 (0)), PVal.nilS, PVal.nilS, PVal.nilS, PVal.nilS, PVal.nilS, PVal.nilS, PVal.dat (Dat.int IntKind.i64 (0)), PVal.dat (Dat.int IntKind.i64 (0)), PVal.dat (Dat.int IntKind.i64 (0)), PVal.dat (Dat.str { data := { toList := [] } }), PVal.dat (Dat.str { data := { toList := [] } }), PVal.dat (Dat.bool false), PVal.dat (Dat.int IntKind.i64 (0)), PVal.dat (Dat.int IntKind.i64 (0)), PVal.dat (Dat.int IntKind.i64 (0)), PVal.dat (Dat.int IntKind.i64 (0)), PVal.dat (Dat.int IntKind.i64 (0))] } := by kernel_rfl
theorem so112 : sizesOf Try.prog [(52, 0), (67, 22), (3, 28), (3, 29)] = some [(0, 22), (22, 6), (28, 1), (29, 1)] := by kernel_rfl
theorem ag112 : aggSize Try.prog 112 = some (some 30) := by kernel_rfl
theorem sz112 : szOf Try.prog 112 = some 30 := by kernel_rfl
theorem ti113 : tinf Try.prog 113 = some { d := TD.struct [(52, 0), (67, 22), (3, 28), (3, 29)], size := 30, bytes := 488, zero := [PVal.dat (Dat.str { data := { toList := [] } }), PVal.dat (Dat.bool false), PVal.nilS, PVal.dat (Dat.int IntKind.i64 (0)), PVal.nilS, PVal.nilS, PVal.nilS, PVal.nilS, PVal.dat (Dat.int IntKind.i64 (0)), PVal.nilS, PVal.nilS, PVal.nilS, PVal.dat (Dat.int IntKind.i64 (0)), PVal.nilS, PVal.nilS, PVal.nilS, PVal.nilS, PVal.nilS, PVal.nilS, PVal.dat (Dat.int IntKind.i64 (0)), PVal.dat (Dat.int IntKind.i64 (0)), PVal.dat (Dat.int IntKind.i64 (0)), PVal.dat (Dat.str { data := { toList := [] } }), PVal.dat (Dat.str { data := { toList := [] } }), PVal.dat (Dat.bool false), PVal.dat (Dat.int IntKind.i64 (0)), PVal.dat (Dat.int IntKind.i64 (0)), PVal.dat (Dat.int IntKind.i64 (0)), PVal.dat (Dat.int IntKind.i64 (0)), PVal.dat (Dat.int IntKind.i64 (0))] } := by kernel_rfl
theorem so113 : sizesOf Try.prog [(52, 0), (67, 22), (3, 28), (3, 29)] = some [(0, 22), (22, 6), (28, 1), (29, 1)] := by kernel_rfl
theorem ag113 : aggSize Try.prog 113 = some (some 30) := by kernel_rfl
theorem sz113 : szOf Try.prog 113 = some 30 := by kernel_rfl
theorem ti114 : tinf Try.prog 114 = some { d := TD.other, size := 1, bytes := 8, zero := [PVal.top] } := by kernel_rfl
theorem ag114 : aggSize Try.prog 114 = some none := by kernel_rfl
theorem sz114 : szOf Try.prog 114 = some 1 := by kernel_rfl
theorem ti115 : tinf Try.prog 115 = some { d := TD.other, size := 1, bytes := 8, zero := [PVal.top] } := by kernel_rfl
theorem ag115 : aggSize Try.prog 115 = some none := by kernel_rfl
theorem sz115 : szOf Try.prog 115 = some 1 := by kernel_rfl
theorem ti116 : tinf Try.prog 116 = some { d := TD.struct [(3, 0), (3, 1), (3, 2), (3, 3)], size := 4, bytes := 32, zero := [PVal.dat (Dat.int IntKind.i64 (0)), PVal.dat (Dat.int IntKind.i64 (0)), PVal.dat (Dat.int IntKind.i64 (0)), PVal.dat (Dat.int IntKind.i64 (0))] } := by kernel_rfl
theorem so116 : sizesOf Try.prog [(3, 0), (3, 1), (3, 2), (3, 3)] = some [(0, 1), (1, 1), (2, 1), (3, 1)] := by kernel_rfl
theorem ag116 : aggSize Try.prog 116 = some (some 4) := by kernel_rfl
theorem sz116 : szOf Try.prog 116 = some 4 := by kernel_rfl
theorem eq116 : eqOk Try.prog 116 = some [SK.i IntKind.i64, SK.i IntKind.i64, SK.i IntKind.i64, SK.i IntKind.i64] := by kernel_rfl
theorem ti117 : tinf Try.prog 117 = some { d := TD.struct [(3, 0), (3, 1), (3, 2), (3, 3)], size := 4, bytes := 32, zero := [PVal.dat (Dat.int IntKind.i64 (0)), PVal.dat (Dat.int IntKind.i64 (0)), PVal.dat (Dat.int IntKind.i64 (0)), PVal.dat (Dat.int IntKind.i64 (0))] } := by kernel_rfl
theorem so117 : sizesOf Try.prog [(3, 0), (3, 1), (3, 2), (3, 3)] = some [(0, 1), (1, 1), (2, 1), (3, 1)] := by kernel_rfl
theorem ag117 : aggSize Try.prog 117 = some (some 4) := by kernel_rfl
theorem sz117 : szOf Try.prog 117 = some 4 := by kernel_rfl
theorem eq117 : eqOk Try.prog 117 = some [SK.i IntKind.i64, SK.i IntKind.i64, SK.i IntKind.i64, SK.i IntKind.i64] := by kernel_rfl
theorem ti118 : tinf Try.prog 118 = some { d := TD.other, size := 1, bytes := 8, zero := [PVal.top] } := by kernel_rfl
theorem ag118 : aggSize Try.prog 118 = some none := by kernel_rfl
theorem sz118 : szOf Try.prog 118 = some 1 := by kernel_rfl
theorem ti119 : tinf Try.prog 119 = some { d := TD.struct [(4, 0), (4, 1), (4, 2), (3, 3)], size := 4, bytes := 16, zero := [PVal.dat (Dat.bool false), PVal.dat (Dat.bool false), PVal.dat (Dat.bool false), PVal.dat (Dat.int IntKind.i64 (0))] } := by kernel_rfl
theorem so119 : sizesOf Try.prog [(4, 0), (4, 1), (4, 2), (3, 3)] = some [(0, 1), (1, 1), (2, 1), (3, 1)] := by kernel_rfl
theorem ag119 : aggSize Try.prog 119 = some (some 4) := by kernel_rfl
theorem sz119 : szOf Try.prog 119 = some 4 := by kernel_rfl
theorem eq119 : eqOk Try.prog 119 = some [SK.b, SK.b, SK.b, SK.i IntKind.i64] := by kernel_rfl
theorem ti120 : tinf Try.prog 120 = some { d := TD.struct [(4, 0), (4, 1), (4, 2), (3, 3)], size := 4, bytes := 16, zero := [PVal.dat (Dat.bool false), PVal.dat (Dat.bool false), PVal.dat (Dat.bool false), PVal.dat (Dat.int IntKind.i64 (0))] } := by kernel_rfl
theorem so120 : sizesOf Try.prog [(4, 0), (4, 1), (4, 2), (3, 3)] = some [(0, 1), (1, 1), (2, 1), (3, 1)] := by kernel_rfl
theorem ag120 : aggSize Try.prog 120 = some (some 4) := by kernel_rfl
theorem sz120 : szOf Try.prog 120 = some 4 := by kernel_rfl
theorem eq120 : eqOk Try.prog 120 = some [SK.b, SK.b, SK.b, SK.i IntKind.i64] := by kernel_rfl
theorem ti121 : tinf Try.prog 121 = some { d := TD.other, size := 1, bytes := 8, zero := [PVal.top] } := by kernel_rfl
theorem ag121 : aggSize Try.prog 121 = some none := by kernel_rfl
theorem sz121 : szOf Try.prog 121 = some 1 := by kernel_rfl
theorem ti122 : tinf Try.prog 122 = some { d := TD.other, size := 1, bytes := 8, zero := [PVal.top] } := by kernel_rfl
theorem ag122 : aggSize Try.prog 122 = some none := by kernel_rfl
theorem sz122 : szOf Try.prog 122 = some 1 := by kernel_rfl
theorem ti123 : tinf Try.prog 123 = some { d := TD.other, size := 1, bytes := 8, zero := [PVal.top] } := by kernel_rfl
theorem ag123 : aggSize Try.prog 123 = some none := by kernel_rfl
theorem sz123 : szOf Try.prog 123 = some 1 := by kernel_rfl
theorem ti124 : tinf Try.prog 124 = some { d := TD.other, size := 1, bytes := 8, zero := [PVal.top] } := by kernel_rfl
theorem ag124 : aggSize Try.prog 124 = some none := by kernel_rfl
theorem sz124 : szOf Try.prog 124 = some 1 := by kernel_rfl
theorem ti125 : tinf Try.prog 125 = some { d := TD.other, size := 1, bytes := 8, zero := [PVal.top] } := by kernel_rfl
theorem ag125 : aggSize Try.prog 125 = some none := by kernel_rfl
theorem sz125 : szOf Try.prog 125 = some 1 := by kernel_rfl
theorem ti126 : tinf Try.prog 126 = some { d := TD.other, size := 1, bytes := 8, zero := [PVal.top] } := by kernel_rfl
theorem ag126 : aggSize Try.prog 126 = some none := by kernel_rfl
theorem sz126 : szOf Try.prog 126 = some 1 := by kernel_rfl
theorem ti127 : tinf Try.prog 127 = some { d := TD.other, size := 1, bytes := 8, zero := [PVal.top] } := by kernel_rfl
theorem ag127 : aggSize Try.prog 127 = some none := by kernel_rfl
theorem sz127 : szOf Try.prog 127 = some 1 := by kernel_rfl
theorem ti128 : tinf Try.prog 128 = some { d := TD.other, size := 1, bytes := 8, zero := [PVal.top] } := by kernel_rfl
theorem ag128 : aggSize Try.prog 128 = some none := by kernel_rfl
theorem sz128 : szOf Try.prog 128 = some 1 := by kernel_rfl
theorem ti129 : tinf Try.prog 129 = some { d := TD.other, size := 1, bytes := 8, zero := [PVal.top] } := by kernel_rfl
theorem ag129 : aggSize Try.prog 129 = some none := by kernel_rfl
theorem sz129 : szOf Try.prog 129 = some 1 := by kernel_rfl
theorem ti130 : tinf Try.prog 130 = some { d := TD.other, size := 1, bytes := 8, zero := [PVal.top] } := by kernel_rfl
theorem ag130 : aggSize Try.prog 130 = some none := by kernel_rfl
theorem sz130 : szOf Try.prog 130 = some 1 := by kernel_rfl
theorem ti131 : tinf Try.prog 131 = some { d := TD.other, size := 1, bytes := 8, zero := [PVal.top] } := by kernel_rfl
theorem ag131 : aggSize Try.prog 131 = some none := by kernel_rfl
theorem sz131 : szOf Try.prog 131 = some 1 := by kernel_rfl
theorem ti132 : tinf Try.prog 132 = some { d := TD.other, size := 1, bytes := 8, zero := [PVal.top] } := by kernel_rfl
theorem ag132 : aggSize Try.prog 132 = some none := by kernel_rfl
theorem sz132 : szOf Try.prog 132 = some 1 := by kernel_rfl
theorem ti133 : tinf Try.prog 133 = some { d := TD.slice 129, size := 1, bytes := 24, zero := [PVal.nilS] } := by kernel_rfl
theorem ag133 : aggSize Try.prog 133 = some none := by kernel_rfl
theorem sz133 : szOf Try.prog 133 = some 1 := by kernel_rfl
theorem ti134 : tinf Try.prog 134 = some { d := TD.other, size := 1, bytes := 8, zero := [PVal.top] } := by kernel_rfl
theorem ag134 : aggSize Try.prog 134 = some none := by kernel_rfl
theorem sz134 : szOf Try.prog 134 = some 1 := by kernel_rfl
theorem ti135 : tinf Try.prog 135 = some { d := TD.other, size := 1, bytes := 8, zero := [PVal.top] } := by kernel_rfl
theorem ag135 : aggSize Try.prog 135 = some none := by kernel_rfl
theorem sz135 : szOf Try.prog 135 = some 1 := by kernel_rfl
theorem ti136 : tinf Try.prog 136 = some { d := TD.other, size := 1, bytes := 8, zero := [PVal.top] } := by kernel_rfl
theorem ag136 : aggSize Try.prog 136 = some none := by kernel_rfl
theorem sz136 : szOf Try.prog 136 = some 1 := by kernel_rfl
theorem ti137 : tinf Try.prog 137 = some { d := TD.other, size := 1, bytes := 8, zero := [PVal.top] } := by kernel_rfl
theorem ag137 : aggSize Try.prog 137 = some none := by kernel_rfl
theorem sz137 : szOf Try.prog 137 = some 1 := by kernel_rfl
theorem ti138 : tinf Try.prog 138 = some { d := TD.other, size := 1, bytes := 8, zero := [PVal.top] } := by kernel_rfl
theorem ag138 : aggSize Try.prog 138 = some none := by kernel_rfl
theorem sz138 : szOf Try.prog 138 = some 1 := by kernel_rfl
theorem ti139 : tinf Try.prog 139 = some { d := TD.other, size := 1, bytes := 8, zero := [PVal.top] } := by kernel_rfl
theorem ag139 : aggSize Try.prog 139 = some none := by kernel_rfl
theorem sz139 : szOf Try.prog 139 = some 1 := by kernel_rfl
theorem ti140 : tinf Try.prog 140 = some { d := TD.other, size := 1, bytes := 8, zero := [PVal.top] } := by kernel_rfl
theorem ag140 : aggSize Try.prog 140 = some none := by kernel_rfl
theorem sz140 : szOf Try.prog 140 = some 1 := by kernel_rfl
theorem ti141 : tinf Try.prog 141 = some { d := TD.other, size := 1, bytes := 8, zero := [PVal.top] } := by kernel_rfl
theorem ag141 : aggSize Try.prog 141 = some none := by kernel_rfl
theorem sz141 : szOf Try.prog 141 = some 1 := by kernel_rfl
theorem ti142 : tinf Try.prog 142 = some { d := TD.other, size := 1, bytes := 8, zero := [PVal.top] } := by kernel_rfl
theorem ag142 : aggSize Try.prog 142 = some none := by kernel_rfl
theorem sz142 : szOf Try.prog 142 = some 1 := by kernel_rfl
theorem ti143 : tinf Try.prog 143 = some { d := TD.other, size := 1, bytes := 8, zero := [PVal.top] } := by kernel_rfl
theorem ag143 : aggSize Try.prog 143 = some none := by kernel_rfl
theorem sz143 : szOf Try.prog 143 = some 1 := by kernel_rfl
theorem ti144 : tinf Try.prog 144 = some { d := TD.other, size := 1, bytes := 8, zero := [PVal.top] } := by kernel_rfl
theorem ag144 : aggSize Try.prog 144 = some none := by kernel_rfl
theorem sz144 : szOf Try.prog 144 = some 1 := by kernel_rfl
theorem ti145 : tinf Try.prog 145 = some { d := TD.other, size := 1, bytes := 8, zero := [PVal.top] } := by kernel_rfl
theorem ag145 : aggSize Try.prog 145 = some none := by kernel_rfl
theorem sz145 : szOf Try.prog 145 = some 1 := by kernel_rfl
theorem ti146 : tinf Try.prog 146 = some { d := TD.other, size := 1, bytes := 8, zero := [PVal.top] } := by kernel_rfl
theorem ag146 : aggSize Try.prog 146 = some none := by kernel_rfl
theorem sz146 : szOf Try.prog 146 = some 1 := by kernel_rfl
theorem ti147 : tinf Try.prog 147 = some { d := TD.struct [(3, 0), (3, 1), (3, 2)], size := 3, bytes := 24, zero := [PVal.dat (Dat.int IntKind.i64 (0)), PVal.dat (Dat.int IntKind.i64 (0)), PVal.dat (Dat.int IntKind.i64 (0))] } := by kernel_rfl
theorem so147 : sizesOf Try.prog [(3, 0), (3, 1), (3, 2)] = some [(0, 1), (1, 1), (2, 1)] := by kernel_rfl
theorem ag147 : aggSize Try.prog 147 = some (some 3) := by kernel_rfl
theorem sz147 : szOf Try.prog 147 = some 3 := by kernel_rfl
theorem eq147 : eqOk Try.prog 147 = some [SK.i IntKind.i64, SK.i IntKind.i64, SK.i IntKind.i64] := by kernel_rfl
theorem ti148 : tinf Try.prog 148 = some { d := TD.struct [(3, 0), (3, 1), (3, 2)], size := 3, bytes := 24, zero := [PVal.dat (Dat.int IntKind.i64 (0)), PVal.dat (Dat.int IntKind.i64 (0)), PVal.dat (Dat.int IntKind.i64 (0))] } := by kernel_rfl
theorem so148 : sizesOf Try.prog [(3, 0), (3, 1), (3, 2)] = some [(0, 1), (1, 1), (2, 1)] := by kernel_rfl
theorem ag148 : aggSize Try.prog 148 = some (some 3) := by kernel_rfl
theorem sz148 : szOf Try.prog 148 = some 3 := by kernel_rfl
theorem eq148 : eqOk Try.prog 148 = some [SK.i IntKind.i64, SK.i IntKind.i64, SK.i IntKind.i64] := by kernel_rfl
theorem ti149 : tinf Try.prog 149 = some { d := TD.struct [(3, 0), (3, 1), (3, 2), (3, 3)], size := 4, bytes := 32, zero := [PVal.dat (Dat.int IntKind.i64 (0)), PVal.dat (Dat.int IntKind.i64 (0)), PVal.dat (Dat.int IntKind.i64 (0)), PVal.dat (Dat.int IntKind.i64 (0))] } := by kernel_rfl
theorem so149 : sizesOf Try.prog [(3, 0), (3, 1), (3, 2), (3, 3)] = some [(0, 1), (1, 1), (2, 1), (3, 1)] := by kernel_rfl
theorem ag149 : aggSize Try.prog 149 = some (some 4) := by kernel_rfl
theorem sz149 : szOf Try.prog 149 = some 4 := by kernel_rfl
theorem eq149 : eqOk Try.prog 149 = some [SK.i IntKind.i64, SK.i IntKind.i64, SK.i IntKind.i64, SK.i IntKind.i64] := by kernel_rfl
theorem ti150 : tinf Try.prog 150 = some { d := TD.struct [(3, 0), (3, 1), (3, 2), (3, 3)], size := 4, bytes := 32, zero := [PVal.dat (Dat.int IntKind.i64 (0)), PVal.dat (Dat.int IntKind.i64 (0)), PVal.dat (Dat.int IntKind.i64 (0)), PVal.dat (Dat.int IntKind.i64 (0))] } := by kernel_rfl
theorem so150 : sizesOf Try.prog [(3, 0), (3, 1), (3, 2), (3, 3)] = some [(0, 1), (1, 1), (2, 1), (3, 1)] := by kernel_rfl
theorem ag150 : aggSize Try.prog 150 = some (some 4) := by kernel_rfl
theorem sz150 : szOf Try.prog 150 = some 4 := by kernel_rfl
theorem eq150 : eqOk Try.prog 150 = some [SK.i IntKind.i64, SK.i IntKind.i64, SK.i IntKind.i64, SK.i IntKind.i64] := by kernel_rfl
theorem ti151 : tinf Try.prog 151 = some { d := TD.other, size := 1, bytes := 8, zero := [PVal.top] } := by kernel_rfl
theorem ag151 : aggSize Try.prog 151 = some none := by kernel_rfl
theorem sz151 : szOf Try.prog 151 = some 1 := by kernel_rfl
theorem ti152 : tinf Try.prog 152 = some { d := TD.struct [(9, 0), (3, 1), (3, 2)], size := 3, bytes := 32, zero := [PVal.dat (Dat.str { data := { toList := [] } }), PVal.dat (Dat.int IntKind.i64 (0)), PVal.dat (Dat.int IntKind.i64 (0))] } := by kernel_rfl
theorem so152 : sizesOf Try.prog [(9, 0), (3, 1), (3, 2)] = some [(0, 1), (1, 1), (2, 1)] := by kernel_rfl
theorem ag152 : aggSize Try.prog 152 = some (some 3) := by kernel_rfl
theorem sz152 : szOf Try.prog 152 = some 3 := by kernel_rfl
theorem eq152 : eqOk Try.prog 152 = some [SK.s, SK.i IntKind.i64, SK.i IntKind.i64] := by kernel_rfl
theorem ti153 : tinf Try.prog 153 = some { d := TD.struct [(9, 0), (3, 1), (3, 2)], size := 3, bytes := 32, zero := [PVal.dat (Dat.str { data := { toList := [] } }), PVal.dat (Dat.int IntKind.i64 (0)), PVal.dat (Dat.int IntKind.i64 (0))] } := by kernel_rfl
theorem so153 : sizesOf Try.prog [(9, 0), (3, 1), (3, 2)] = some [(0, 1), (1, 1), (2, 1)] := by kernel_rfl
theorem ag153 : aggSize Try.prog 153 = some (some 3) := by kernel_rfl
theorem sz153 : szOf Try.prog 153 = some 3 := by kernel_rfl
theorem eq153 : eqOk Try.prog 153 = some [SK.s, SK.i IntKind.i64, SK.i IntKind.i64] := by kernel_rfl
theorem ti154 : tinf Try.prog 154 = some { d := TD.other, size := 1, bytes := 8, zero := [PVal.top] } := by kernel_rfl
theorem ag154 : aggSize Try.prog 154 = some none := by kernel_rfl
theorem sz154 : szOf Try.prog 154 = some 1 := by kernel_rfl
theorem ti155 : tinf Try.prog 155 = some { d := TD.struct [(3, 0), (3, 1), (3, 2), (3, 3), (3, 4)], size := 5, bytes := 40, zero := [PVal.dat (Dat.int IntKind.i64 (0)), PVal.dat (Dat.int IntKind.i64 (0)), PVal.dat (Dat.int IntKind.i64 (0)), PVal.dat (Dat.int IntKind.i64 (0)), PVal.dat (Dat.int IntKind.i64 (0))] } := by kernel_rfl
theorem so155 : sizesOf Try.prog [(3, 0), (3, 1), (3, 2), (3, 3), (3, 4)] = some [(0, 1), (1, 1), (2, 1), (3, 1), (4, 1)] := by kernel_rfl
theorem ag155 : aggSize Try.prog 155 = some (some 5) := by kernel_rfl
theorem sz155 : szOf Try.prog 155 = some 5 := by kernel_rfl
theorem eq155 : eqOk Try.prog 155 = some [SK.i IntKind.i64, SK.i IntKind.i64, SK.i IntKind.i64, SK.i IntKind.i64, SK.i IntKind.i64] := by kernel_rfl
theorem ti156 : tinf Try.prog 156 = some { d := TD.struct [(3, 0), (3, 1), (3, 2), (3, 3), (3, 4)], size := 5, bytes := 40, zero := [PVal.dat (Dat.int IntKind.i64 (0)), PVal.dat (Dat.int IntKind.i64 (0)), PVal.dat (Dat.int IntKind.i64 (0)), PVal.dat (Dat.int IntKind.i64 (0)), PVal.dat (Dat.int IntKind.i64 (0))] } := by kernel_rfl
theorem so156 : sizesOf Try.prog [(3, 0), (3, 1), (3, 2), (3, 3), (3, 4)] = some [(0, 1), (1, 1), (2, 1), (3, 1), (4, 1)] := by kernel_rfl
theorem ag156 : aggSize Try.prog 156 = some (some 5) := by kernel_rfl
theorem sz156 : szOf Try.prog 156 = some 5 := by kernel_rfl
theorem eq156 : eqOk Try.prog 156 = some [SK.i IntKind.i64, SK.i IntKind.i64, SK.i IntKind.i64, SK.i IntKind.i64, SK.i IntKind.i64] := by kernel_rfl
theorem ti157 : tinf Try.prog 157 = some { d := TD.other, size := 1, bytes := 8, zero := [PVal.top] } := by kernel_rfl
theorem ag157 : aggSize Try.prog 157 = some none := by kernel_rfl
theorem sz157 : szOf Try.prog 157 = some 1 := by kernel_rfl
theorem ti158 : tinf Try.prog 158 = some { d := TD.other, size := 1, bytes := 8, zero := [PVal.top] } := by kernel_rfl
theorem ag158 : aggSize Try.prog 158 = some none := by kernel_rfl
theorem sz158 : szOf Try.prog 158 = some 1 := by kernel_rfl
theorem ti159 : tinf Try.prog 159 = some { d := TD.other, size := 1, bytes := 8, zero := [PVal.top] } := by kernel_rfl
theorem ag159 : aggSize Try.prog 159 = some none := by kernel_rfl
theorem sz159 : szOf Try.prog 159 = some 1 := by kernel_rfl
theorem ti160 : tinf Try.prog 160 = some { d := TD.other, size := 1, bytes := 8, zero := [PVal.top] } := by kernel_rfl
theorem ag160 : aggSize Try.prog 160 = some none := by kernel_rfl
theorem sz160 : szOf Try.prog 160 = some 1 := by kernel_rfl
theorem ti161 : tinf Try.prog 161 = some { d := TD.slice 167, size := 1, bytes := 24, zero := [PVal.nilS] } := by kernel_rfl
theorem ag161 : aggSize Try.prog 161 = some none := by kernel_rfl
theorem sz161 : szOf Try.prog 161 = some 1 := by kernel_rfl
theorem ti162 : tinf Try.prog 162 = some { d := TD.struct [(3, 0), (9, 1), (3, 2), (3, 3), (3, 4), (161, 5)], size := 6, bytes := 72, zero := [PVal.dat (Dat.int IntKind.i64 (0)), PVal.dat (Dat.str { data := { toList := [] } }), PVal.dat (Dat.int IntKind.i64 (0)), PVal.dat (Dat.int IntKind.i64 (0)), PVal.dat (Dat.int IntKind.i64 (0)), PVal.nilS] } := by kernel_rfl
theorem so162 : sizesOf Try.prog [(3, 0), (9, 1), (3, 2), (3, 3), (3, 4), (161, 5)] = some [(0, 1), (1, 1), (2, 1), (3, 1), (4, 1), (5, 1)] := by kernel_rfl
theorem ag162 : aggSize Try.prog 162 = some (some 6) := by kernel_rfl
theorem sz162 : szOf Try.prog 162 = some 6 := by kernel_rfl
theorem ti163 : tinf Try.prog 163 = some { d := TD.struct [(3, 0), (9, 1), (3, 2), (3, 3), (3, 4), (161, 5)], size := 6, bytes := 72, zero := [PVal.dat (Dat.int IntKind.i64 (0)), PVal.dat (Dat.str { data := { toList := [] } }), PVal.dat (Dat.int IntKind.i64 (0)), PVal.dat (Dat.int IntKind.i64 (0)), PVal.dat (Dat.int IntKind.i64 (0)), PVal.nilS] } := by kernel_rfl
theorem so163 : sizesOf Try.prog [(3, 0), (9, 1), (3, 2), (3, 3), (3, 4), (161, 5)] = some [(0, 1), (1, 1), (2, 1), (3, 1), (4, 1), (5, 1)] := by kernel_rfl
theorem ag163 : aggSize Try.prog 163 = some (some 6) := by kernel_rfl
theorem sz163 : szOf Try.prog 163 = some 6 := by kernel_rfl
theorem ti164 : tinf Try.prog 164 = some { d := TD.other, size := 1, bytes := 8, zero := [PVal.top] } := by kernel_rfl
theorem ag164 : aggSize Try.prog 164 = some none := by kernel_rfl
theorem sz164 : szOf Try.prog 164 = some 1 := by kernel_rfl
theorem ti165 : tinf Try.prog 165 = some { d := TD.other, size := 1, bytes := 8, zero := [PVal.top] } := by kernel_rfl
theorem ag165 : aggSize Try.prog 165 = some none := by kernel_rfl
theorem sz165 : szOf Try.prog 165 = some 1 := by kernel_rfl
theorem ti166 : tinf Try.prog 166 = some { d := TD.struct [(9, 0), (3, 1), (3, 2)], size := 3, bytes := 32, zero := [PVal.dat (Dat.str { data := { toList := [] } }), PVal.dat (Dat.int IntKind.i64 (0)), PVal.dat (Dat.int IntKind.i64 (0))] } := by kernel_rfl
theorem so166 : sizesOf Try.prog [(9, 0), (3, 1), (3, 2)] = some [(0, 1), (1, 1), (2, 1)] := by kernel_rfl
theorem ag166 : aggSize Try.prog 166 = some (some 3) := by kernel_rfl
theorem sz166 : szOf Try.prog 166 = some 3 := by kernel_rfl
theorem eq166 : eqOk Try.prog 166 = some [SK.s, SK.i IntKind.i64, SK.i IntKind.i64] := by kernel_rfl
theorem ti167 : tinf Try.prog 167 = some { d := TD.struct [(9, 0), (3, 1), (3, 2)], size := 3, bytes := 32, zero := [PVal.dat (Dat.str { data := { toList := [] } }), PVal.dat (Dat.int IntKind.i64 (0)), PVal.dat (Dat.int IntKind.i64 (0))] } := by kernel_rfl
theorem so167 : sizesOf Try.prog [(9, 0), (3, 1), (3, 2)] = some [(0, 1), (1, 1), (2, 1)] := by kernel_rfl
theorem ag167 : aggSize Try.prog 167 = some (some 3) := by kernel_rfl
theorem sz167 : szOf Try.prog 167 = some 3 := by kernel_rfl
theorem eq167 : eqOk Try.prog 167 = some [SK.s, SK.i IntKind.i64, SK.i IntKind.i64] := by kernel_rfl
theorem ti168 : tinf Try.prog 168 = some { d := TD.other, size := 1, bytes := 8, zero := [PVal.top] } := by kernel_rfl
theorem ag168 : aggSize Try.prog 168 = some none := by kernel_rfl
theorem sz168 : szOf Try.prog 168 = some 1 := by kernel_rfl
theorem ti169 : tinf Try.prog 169 = some { d := TD.other, size := 1, bytes := 8, zero := [PVal.top] } := by kernel_rfl
theorem ag169 : aggSize Try.prog 169 = some none := by kernel_rfl
theorem sz169 : szOf Try.prog 169 = some 1 := by kernel_rfl
theorem ti170 : tinf Try.prog 170 = some { d := TD.other, size := 1, bytes := 8, zero := [PVal.top] } := by kernel_rfl
theorem ag170 : aggSize Try.prog 170 = some none := by kernel_rfl
theorem sz170 : szOf Try.prog 170 = some 1 := by kernel_rfl
theorem ti171 : tinf Try.prog 171 = some { d := TD.other, size := 1, bytes := 8, zero := [PVal.top] } := by kernel_rfl
theorem ag171 : aggSize Try.prog 171 = some none := by kernel_rfl
theorem sz171 : szOf Try.prog 171 = some 1 := by kernel_rfl
theorem ti172 : tinf Try.prog 172 = some { d := TD.struct [(17, 0), (17, 1), (17, 2), (9, 3)], size := 4, bytes := 40, zero := [PVal.top, PVal.top, PVal.top, PVal.dat (Dat.str { data := { toList := [] } })] } := by kernel_rfl
theorem so172 : sizesOf Try.prog [(17, 0), (17, 1), (17, 2), (9, 3)] = some [(0, 1), (1, 1), (2, 1), (3, 1)] := by kernel_rfl
theorem ag172 : aggSize Try.prog 172 = some (some 4) := by kernel_rfl
theorem sz172 : szOf Try.prog 172 = some 4 := by kernel_rfl
theorem ti173 : tinf Try.prog 173 = some { d := TD.struct [(17, 0), (17, 1), (17, 2), (9, 3)], size := 4, bytes := 40, zero := [PVal.top, PVal.top, PVal.top, PVal.dat (Dat.str { data := { toList := [] } })] } := by kernel_rfl
theorem so173 : sizesOf Try.prog [(17, 0), (17, 1), (17, 2), (9, 3)] = some [(0, 1), (1, 1), (2, 1), (3, 1)] := by kernel_rfl
theorem ag173 : aggSize Try.prog 173 = some (some 4) := by kernel_rfl
theorem sz173 : szOf Try.prog 173 = some 4 := by kernel_rfl
theorem ag174 : aggSize Try.prog 174 = some (some 0) := by kernel_rfl
theorem sz174 : szOf Try.prog 174 = some 0 := by kernel_rfl
theorem ag175 : aggSize Try.prog 175 = some (some 0) := by kernel_rfl
theorem sz175 : szOf Try.prog 175 = some 0 := by kernel_rfl
theorem ag176 : aggSize Try.prog 176 = some (some 0) := by kernel_rfl
theorem sz176 : szOf Try.prog 176 = some 0 := by kernel_rfl
theorem ti177 : tinf Try.prog 177 = some { d := TD.other, size := 1, bytes := 8, zero := [PVal.top] } := by kernel_rfl
theorem ag177 : aggSize Try.prog 177 = some none := by kernel_rfl
theorem sz177 : szOf Try.prog 177 = some 1 := by kernel_rfl
theorem ti178 : tinf Try.prog 178 = some { d := TD.int IntKind.u8, size := 1, bytes := 1, zero := [PVal.dat (Dat.int IntKind.u8 (0))] } := by kernel_rfl
theorem ag178 : aggSize Try.prog 178 = some none := by kernel_rfl
theorem sz178 : szOf Try.prog 178 = some 1 := by kernel_rfl
theorem ti179 : tinf Try.prog 179 = some { d := TD.int IntKind.u8, size := 1, bytes := 1, zero := [PVal.dat (Dat.int IntKind.u8 (0))] } := by kernel_rfl
theorem ag179 : aggSize Try.prog 179 = some none := by kernel_rfl
theorem sz179 : szOf Try.prog 179 = some 1 := by kernel_rfl
theorem ti180 : tinf Try.prog 180 = some { d := TD.other, size := 1, bytes := 8, zero := [PVal.top] } := by kernel_rfl
theorem ag180 : aggSize Try.prog 180 = some none := by kernel_rfl
theorem sz180 : szOf Try.prog 180 = some 1 := by kernel_rfl
theorem ti181 : tinf Try.prog 181 = some { d := TD.other, size := 1, bytes := 8, zero := [PVal.top] } := by kernel_rfl
theorem ag181 : aggSize Try.prog 181 = some none := by kernel_rfl
theorem sz181 : szOf Try.prog 181 = some 1 := by kernel_rfl
theorem ti182 : tinf Try.prog 182 = some { d := TD.int IntKind.i32, size := 1, bytes := 4, zero := [PVal.dat (Dat.int IntKind.i32 (0))] } := by kernel_rfl
theorem ag182 : aggSize Try.prog 182 = some none := by kernel_rfl
theorem sz182 : szOf Try.prog 182 = some 1 := by kernel_rfl
theorem ti183 : tinf Try.prog 183 = some { d := TD.int IntKind.i32, size := 1, bytes := 4, zero := [PVal.dat (Dat.int IntKind.i32 (0))] } := by kernel_rfl
theorem ag183 : aggSize Try.prog 183 = some none := by kernel_rfl
theorem sz183 : szOf Try.prog 183 = some 1 := by kernel_rfl
theorem ti184 : tinf Try.prog 184 = some { d := TD.struct [(12, 0), (12, 1), (72, 2), (178, 3), (5, 4), (5, 5), (179, 6), (180, 7), (181, 8), (182, 9), (183, 10)], size := 11, bytes := 48, zero := [PVal.dat (Dat.int IntKind.u64 (0)), PVal.dat (Dat.int IntKind.u64 (0)), PVal.dat (Dat.int IntKind.u32 (0)), PVal.dat (Dat.int IntKind.u8 (0)), PVal.dat (Dat.int IntKind.u8 (0)), PVal.dat (Dat.int IntKind.u8 (0)), PVal.dat (Dat.int IntKind.u8 (0)), PVal.top, PVal.top, PVal.dat (Dat.int IntKind.i32 (0)), PVal.dat (Dat.int IntKind.i32 (0))] } := by kernel_rfl
theorem so184 : sizesOf Try.prog [(12, 0), (12, 1), (72, 2), (178, 3), (5, 4), (5, 5), (179, 6), (180, 7), (181, 8), (182, 9), (183, 10)] = some [(0, 1), (1, 1), (2, 1), (3, 1), (4, 1), (5, 1), (6, 1), (7, 1), (8, 1), (9, 1), (10, 1)] := by kernel_rfl
theorem ag184 : aggSize Try.prog 184 = some (some 11) := by kernel_rfl
theorem sz184 : szOf Try.prog 184 = some 11 := by kernel_rfl
theorem ti185 : tinf Try.prog 185 = some { d := TD.struct [(12, 0), (12, 1), (72, 2), (178, 3), (5, 4), (5, 5), (179, 6), (180, 7), (181, 8), (182, 9), (183, 10)], size := 11, bytes := 48, zero := [PVal.dat (Dat.int IntKind.u64 (0)), PVal.dat (Dat.int IntKind.u64 (0)), PVal.dat (Dat.int IntKind.u32 (0)), PVal.dat (Dat.int IntKind.u8 (0)), PVal.dat (Dat.int IntKind.u8 (0)), PVal.dat (Dat.int IntKind.u8 (0)), PVal.dat (Dat.int IntKind.u8 (0)), PVal.top, PVal.top, PVal.dat (Dat.int IntKind.i32 (0)), PVal.dat (Dat.int IntKind.i32 (0))] } := by kernel_rfl
theorem so185 : sizesOf Try.prog [(12, 0), (12, 1), (72, 2), (178, 3), (5, 4), (5, 5), (179, 6), (180, 7), (181, 8), (182, 9), (183, 10)] = some [(0, 1), (1, 1), (2, 1), (3, 1), (4, 1), (5, 1), (6, 1), (7, 1), (8, 1), (9, 1), (10, 1)] := by kernel_rfl
theorem ag185 : aggSize Try.prog 185 = some (some 11) := by kernel_rfl
theorem sz185 : szOf Try.prog 185 = some 11 := by kernel_rfl
theorem ti186 : tinf Try.prog 186 = some { d := TD.other, size := 1, bytes := 8, zero := [PVal.top] } := by kernel_rfl
theorem ag186 : aggSize Try.prog 186 = some none := by kernel_rfl
theorem sz186 : szOf Try.prog 186 = some 1 := by kernel_rfl
attribute [simp] ti0 ag0 sz0 ti1 ag1 sz1 ti2 ag2 sz2 ti3 ag3 sz3 ti4 ag4 sz4 ti5 ag5 sz5 ti6 ag6 sz6 ti7 so7 ag7 sz7 eq7 ti8 so8 ag8 sz8 eq8 ti9 ag9 sz9 ti10 ag10 sz10 ti11 ag11 sz11 ti12 ag12 sz12 ti13 so13 ag13 sz13 ti14 so14 ag14 sz14 ti15 ag15 sz15 ti16 ag16 sz16 ti17 ag17 sz17 ti18 so18 ag18 sz18 ti19 so19 ag19 sz19 ti20 ag20 sz20 ti21 ag21 sz21 ti22 ag22 sz22 ti23 ag23 sz23 ti24 so24 ag24 sz24 eq24 ti25 so25 ag25 sz25 eq25 ti26 ag26 sz26 ti27 ag27 sz27 ti28 ag28 sz28 ti29 ag29 sz29 ti30 ag30 sz30 ti31 ag31 sz31 ti32 ag32 sz32 ti33 ag33 sz33 ti34 ag34 sz34 ti35 ag35 sz35 ti36 ag36 sz36 ti37 ag37 sz37 ti38 ag38 sz38 ti39 ag39 sz39 ti40 ag40 sz40 ti41 ag41 sz41 ti42 ag42 sz42 ti43 ag43 sz43 ti44 ag44 sz44 ti45 so45 ag45 sz45 ti46 so46 ag46 sz46 ti47 ag47 sz47 ti48 ag48 sz48 ti49 ag49 sz49 ti50 ag50 sz50 ti51 so51 ag51 sz51 ti52 so52 ag52 sz52 ti53 ag53 sz53 ti54 ag54 sz54 ti55 ag55 sz55 ti56 ag56 sz56 ti57 so57 ag57 sz57 eq57 ti58 so58 ag58 sz58 eq58 ti59 so59 ag59 sz59 eq59 ti60 so60 ag60 sz60 eq60 ti61 ag61 sz61 ti62 ag62 sz62 ti63 ag63 sz63 ti64 ag64 sz64 ti65 ag65 sz65 ti66 so66 ag66 sz66 eq66 ti67 so67 ag67 sz67 eq67 ti68 ag68 sz68 ti69 ag69 sz69 ti70 ag70 sz70 ti71 ag71 sz71 ti72 ag72 sz72 ti73 so73 ag73 sz73 eq73 ti74 so74 ag74 sz74 eq74 ti75 ag75 sz75 ti76 ag76 sz76 ti77 ag77 sz77 ti78 so78 ag78 sz78 ti79 so79 ag79 sz79 ti80 ag80 sz80 ti81 ag81 sz81 ti82 ag82 sz82 ti83 ag83 sz83 ti84 ag84 sz84 ti85 ag85 sz85 ti86 ag86 sz86 ti87 ag87 sz87 ti88 ag88 sz88 ti89 ag89 sz89 ti90 ag90 sz90 ti91 ag91 sz91 ti92 ag92 sz92 ti93 ag93 sz93 ti94 ag94 sz94 ti95 ag95 sz95 ti96 ag96 sz96 ti97 ag97 sz97 ti98 ag98 sz98 ti99 ag99 sz99 ti100 ag100 sz100 ti101 so101 ag101 sz101 ti102 so102 ag102 sz102 ti103 ag103 sz103 ti104 ag104 sz104 ti105 ag105 sz105 ti106 ag106 sz106 ti107 ag107 sz107 ti108 ag108 sz108 ti109 ag109 sz109 ti110 ag110 sz110 ti111 ag111 sz111 ti112 so112 ag112 sz112 ti113 so113 ag113 sz113 ti114 ag114 sz114 ti115 ag115 sz115 ti116 so116 ag116 sz116 eq116 ti117 so117 ag117 sz117 eq117 ti118 ag118 sz118 ti119 so119 ag119 sz119 eq119 ti120 so120 ag120 sz120 eq120 ti121 ag121 sz121 ti122 ag122 sz122 ti123 ag123 sz123 ti124 ag124 sz124 ti125 ag125 sz125 ti126 ag126 sz126 ti127 ag127 sz127 ti128 ag128 sz128 ti129 ag129 sz129 ti130 ag130 sz130 ti131 ag131 sz131 ti132 ag132 sz132 ti133 ag133 sz133 ti134 ag134 sz134 ti135 ag135 sz135 ti136 ag136 sz136 ti137 ag137 sz137 ti138 ag138 sz138 ti139 ag139 sz139 ti140 ag140 sz140 ti141 ag141 sz141 ti142 ag142 sz142 ti143 ag143 sz143 ti144 ag144 sz144 ti145 ag145 sz145 ti146 ag146 sz146 ti147 so147 ag147 sz147 eq147 ti148 so148 ag148 sz148 eq148 ti149 so149 ag149 sz149 eq149 ti150 so150 ag150 sz150 eq150 ti151 ag151 sz151 ti152 so152 ag152 sz152 eq152 ti153 so153 ag153 sz153 eq153 ti154 ag154 sz154 ti155 so155 ag155 sz155 eq155 ti156 so156 ag156 sz156 eq156 ti157 ag157 sz157 ti158 ag158 sz158 ti159 ag159 sz159 ti160 ag160 sz160 ti161 ag161 sz161 ti162 so162 ag162 sz162 ti163 so163 ag163 sz163 ti164 ag164 sz164 ti165 ag165 sz165 ti166 so166 ag166 sz166 eq166 ti167 so167 ag167 sz167 eq167 ti168 ag168 sz168 ti169 ag169 sz169 ti170 ag170 sz170 ti171 ag171 sz171 ti172 so172 ag172 sz172 ti173 so173 ag173 sz173 ag174 sz174 ag175 sz175 ag176 sz176 ti177 ag177 sz177 ti178 ag178 sz178 ti179 ag179 sz179 ti180 ag180 sz180 ti181 ag181 sz181 ti182 ag182 sz182 ti183 ag183 sz183 ti184 so184 ag184 sz184 ti185 so185 ag185 sz185 ti186 ag186 sz186
end Go.Proofs.Ytflpgdlgfffigaa
