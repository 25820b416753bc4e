/- What is known of the types of the seat. -/
import Derived.Test.YtflpgdlgfffigaaGreatCoreB
import Derived.Test.YtflpgdlgfffigaaGreatProg
namespace Go.Proofs.YtflpgdlgfffigaaGreat
open Go Go.Abs
theorem hmix : Tryz.prog.follows .mixedOrders = true := by kernel_rfl
theorem ti0 : tinf Tryz.prog 0 = some { d := TD.other, size := 1, bytes := 0, zero := [PVal.top] } := by kernel_rfl
theorem ag0 : aggSize Tryz.prog 0 = some none := by kernel_rfl
theorem sz0 : szOf Tryz.prog 0 = some 1 := by kernel_rfl
theorem ti1 : tinf Tryz.prog 1 = some { d := TD.other, size := 1, bytes := 8, zero := [PVal.top] } := by kernel_rfl
theorem ag1 : aggSize Tryz.prog 1 = some none := by kernel_rfl
theorem sz1 : szOf Tryz.prog 1 = some 1 := by kernel_rfl
theorem ti2 : tinf Tryz.prog 2 = some { d := TD.int IntKind.i64, size := 1, bytes := 8, zero := [PVal.dat (Dat.int IntKind.i64 (0))] } := by kernel_rfl
theorem ag2 : aggSize Tryz.prog 2 = some none := by kernel_rfl
theorem sz2 : szOf Tryz.prog 2 = some 1 := by kernel_rfl
theorem ti3 : tinf Tryz.prog 3 = some { d := TD.int IntKind.i64, size := 1, bytes := 8, zero := [PVal.dat (Dat.int IntKind.i64 (0))] } := by kernel_rfl
theorem ag3 : aggSize Tryz.prog 3 = some none := by kernel_rfl
theorem sz3 : szOf Tryz.prog 3 = some 1 := by kernel_rfl
theorem ti4 : tinf Tryz.prog 4 = some { d := TD.bool, size := 1, bytes := 1, zero := [PVal.dat (Dat.bool false)] } := by kernel_rfl
theorem ag4 : aggSize Tryz.prog 4 = some none := by kernel_rfl
theorem sz4 : szOf Tryz.prog 4 = some 1 := by kernel_rfl
theorem ti5 : tinf Tryz.prog 5 = some { d := TD.int IntKind.u8, size := 1, bytes := 1, zero := [PVal.dat (Dat.int IntKind.u8 (0))] } := by kernel_rfl
theorem ag5 : aggSize Tryz.prog 5 = some none := by kernel_rfl
theorem sz5 : szOf Tryz.prog 5 = some 1 := by kernel_rfl
theorem ti6 : tinf Tryz.prog 6 = some { d := TD.int IntKind.u8, size := 1, bytes := 1, zero := [PVal.dat (Dat.int IntKind.u8 (0))] } := by kernel_rfl
theorem ag6 : aggSize Tryz.prog 6 = some none := by kernel_rfl
theorem sz6 : szOf Tryz.prog 6 = some 1 := by kernel_rfl
theorem ti7 : tinf Tryz.prog 7 = some { d := TD.struct [(2, 0), (3, 1), (4, 2), (6, 3)], size := 4, bytes := 24, zero := [PVal.dat (Dat.int IntKind.i64 (0)), PVal.dat (Dat.int IntKind.i64 (0)), PVal.dat (Dat.bool false), PVal.dat (Dat.int IntKind.u8 (0))] } := by kernel_rfl
theorem so7 : sizesOf Tryz.prog [(2, 0), (3, 1), (4, 2), (6, 3)] = some [(0, 1), (1, 1), (2, 1), (3, 1)] := by kernel_rfl
theorem ag7 : aggSize Tryz.prog 7 = some (some 4) := by kernel_rfl
theorem sz7 : szOf Tryz.prog 7 = some 4 := by kernel_rfl
theorem eq7 : eqOk Tryz.prog 7 = some [SK.i IntKind.i64, SK.i IntKind.i64, SK.b, SK.i IntKind.u8] := by kernel_rfl
theorem ti8 : tinf Tryz.prog 8 = some { d := TD.struct [(2, 0), (3, 1), (4, 2), (6, 3)], size := 4, bytes := 24, zero := [PVal.dat (Dat.int IntKind.i64 (0)), PVal.dat (Dat.int IntKind.i64 (0)), PVal.dat (Dat.bool false), PVal.dat (Dat.int IntKind.u8 (0))] } := by kernel_rfl
theorem so8 : sizesOf Tryz.prog [(2, 0), (3, 1), (4, 2), (6, 3)] = some [(0, 1), (1, 1), (2, 1), (3, 1)] := by kernel_rfl
theorem ag8 : aggSize Tryz.prog 8 = some (some 4) := by kernel_rfl
theorem sz8 : szOf Tryz.prog 8 = some 4 := by kernel_rfl
theorem eq8 : eqOk Tryz.prog 8 = some [SK.i IntKind.i64, SK.i IntKind.i64, SK.b, SK.i IntKind.u8] := by kernel_rfl
theorem ti9 : tinf Tryz.prog 9 = some { d := TD.string, size := 1, bytes := 16, zero := [PVal.dat (Dat.str { data := { toList := [] } })] } := by kernel_rfl
theorem ag9 : aggSize Tryz.prog 9 = some none := by kernel_rfl
theorem sz9 : szOf Tryz.prog 9 = some 1 := by kernel_rfl
theorem ti10 : tinf Tryz.prog 10 = some { d := TD.string, size := 1, bytes := 16, zero := [PVal.dat (Dat.str { data := { toList := [] } })] } := by kernel_rfl
theorem ag10 : aggSize Tryz.prog 10 = some none := by kernel_rfl
theorem sz10 : szOf Tryz.prog 10 = some 1 := by kernel_rfl
theorem ti11 : tinf Tryz.prog 11 = some { d := TD.string, size := 1, bytes := 16, zero := [PVal.dat (Dat.str { data := { toList := [] } })] } := by kernel_rfl
theorem ag11 : aggSize Tryz.prog 11 = some none := by kernel_rfl
theorem sz11 : szOf Tryz.prog 11 = some 1 := by kernel_rfl
theorem ti12 : tinf Tryz.prog 12 = some { d := TD.int IntKind.u64, size := 1, bytes := 8, zero := [PVal.dat (Dat.int IntKind.u64 (0))] } := by kernel_rfl
theorem ag12 : aggSize Tryz.prog 12 = some none := by kernel_rfl
theorem sz12 : szOf Tryz.prog 12 = some 1 := by kernel_rfl
theorem ti13 : tinf Tryz.prog 13 = some { d := TD.struct [(9, 0), (12, 1)], size := 2, bytes := 24, zero := [PVal.dat (Dat.str { data := { toList := [] } }), PVal.dat (Dat.int IntKind.u64 (0))] } := by kernel_rfl
theorem so13 : sizesOf Tryz.prog [(9, 0), (12, 1)] = some [(0, 1), (1, 1)] := by kernel_rfl
theorem ag13 : aggSize Tryz.prog 13 = some (some 2) := by kernel_rfl
theorem sz13 : szOf Tryz.prog 13 = some 2 := by kernel_rfl
theorem ti14 : tinf Tryz.prog 14 = some { d := TD.struct [(9, 0), (12, 1)], size := 2, bytes := 24, zero := [PVal.dat (Dat.str { data := { toList := [] } }), PVal.dat (Dat.int IntKind.u64 (0))] } := by kernel_rfl
theorem so14 : sizesOf Tryz.prog [(9, 0), (12, 1)] = some [(0, 1), (1, 1)] := by kernel_rfl
theorem ag14 : aggSize Tryz.prog 14 = some (some 2) := by kernel_rfl
theorem sz14 : szOf Tryz.prog 14 = some 2 := by kernel_rfl
theorem ti15 : tinf Tryz.prog 15 = some { d := TD.other, size := 1, bytes := 8, zero := [PVal.top] } := by kernel_rfl
theorem ag15 : aggSize Tryz.prog 15 = some none := by kernel_rfl
theorem sz15 : szOf Tryz.prog 15 = some 1 := by kernel_rfl
theorem ti16 : tinf Tryz.prog 16 = some { d := TD.other, size := 1, bytes := 8, zero := [PVal.top] } := by kernel_rfl
theorem ag16 : aggSize Tryz.prog 16 = some none := by kernel_rfl
theorem sz16 : szOf Tryz.prog 16 = some 1 := by kernel_rfl
theorem ti17 : tinf Tryz.prog 17 = some { d := TD.other, size := 1, bytes := 8, zero := [PVal.top] } := by kernel_rfl
theorem ag17 : aggSize Tryz.prog 17 = some none := by kernel_rfl
theorem sz17 : szOf Tryz.prog 17 = some 1 := by kernel_rfl
theorem ti18 : tinf Tryz.prog 18 = some { d := TD.struct [(17, 0)], size := 1, bytes := 8, zero := [PVal.top] } := by kernel_rfl
theorem so18 : sizesOf Tryz.prog [(17, 0)] = some [(0, 1)] := by kernel_rfl
theorem ag18 : aggSize Tryz.prog 18 = some (some 1) := by kernel_rfl
theorem sz18 : szOf Tryz.prog 18 = some 1 := by kernel_rfl
theorem ti19 : tinf Tryz.prog 19 = some { d := TD.struct [(17, 0)], size := 1, bytes := 8, zero := [PVal.top] } := by kernel_rfl
theorem so19 : sizesOf Tryz.prog [(17, 0)] = some [(0, 1)] := by kernel_rfl
theorem ag19 : aggSize Tryz.prog 19 = some (some 1) := by kernel_rfl
theorem sz19 : szOf Tryz.prog 19 = some 1 := by kernel_rfl
theorem ti20 : tinf Tryz.prog 20 = some { d := TD.other, size := 1, bytes := 16, zero := [PVal.top] } := by kernel_rfl
theorem ag20 : aggSize Tryz.prog 20 = some none := by kernel_rfl
theorem sz20 : szOf Tryz.prog 20 = some 1 := by kernel_rfl
theorem ti21 : tinf Tryz.prog 21 = some { d := TD.int IntKind.i32, size := 1, bytes := 4, zero := [PVal.dat (Dat.int IntKind.i32 (0))] } := by kernel_rfl
theorem ag21 : aggSize Tryz.prog 21 = some none := by kernel_rfl
theorem sz21 : szOf Tryz.prog 21 = some 1 := by kernel_rfl
theorem ti22 : tinf Tryz.prog 22 = some { d := TD.slice 80, size := 1, bytes := 24, zero := [PVal.nilS] } := by kernel_rfl
theorem ag22 : aggSize Tryz.prog 22 = some none := by kernel_rfl
theorem sz22 : szOf Tryz.prog 22 = some 1 := by kernel_rfl
theorem ti23 : tinf Tryz.prog 23 = some { d := TD.slice 3, size := 1, bytes := 24, zero := [PVal.nilS] } := by kernel_rfl
theorem ag23 : aggSize Tryz.prog 23 = some none := by kernel_rfl
theorem sz23 : szOf Tryz.prog 23 = some 1 := by kernel_rfl
theorem ti24 : tinf Tryz.prog 24 = some { d := TD.struct [(3, 0), (3, 1)], size := 2, bytes := 16, zero := [PVal.dat (Dat.int IntKind.i64 (0)), PVal.dat (Dat.int IntKind.i64 (0))] } := by kernel_rfl
theorem so24 : sizesOf Tryz.prog [(3, 0), (3, 1)] = some [(0, 1), (1, 1)] := by kernel_rfl
theorem ag24 : aggSize Tryz.prog 24 = some (some 2) := by kernel_rfl
theorem sz24 : szOf Tryz.prog 24 = some 2 := by kernel_rfl
theorem eq24 : eqOk Tryz.prog 24 = some [SK.i IntKind.i64, SK.i IntKind.i64] := by kernel_rfl
theorem ti25 : tinf Tryz.prog 25 = some { d := TD.struct [(3, 0), (3, 1)], size := 2, bytes := 16, zero := [PVal.dat (Dat.int IntKind.i64 (0)), PVal.dat (Dat.int IntKind.i64 (0))] } := by kernel_rfl
theorem so25 : sizesOf Tryz.prog [(3, 0), (3, 1)] = some [(0, 1), (1, 1)] := by kernel_rfl
theorem ag25 : aggSize Tryz.prog 25 = some (some 2) := by kernel_rfl
theorem sz25 : szOf Tryz.prog 25 = some 2 := by kernel_rfl
theorem eq25 : eqOk Tryz.prog 25 = some [SK.i IntKind.i64, SK.i IntKind.i64] := by kernel_rfl
theorem ti26 : tinf Tryz.prog 26 = some { d := TD.other, size := 1, bytes := 0, zero := [PVal.top] } := by kernel_rfl
theorem ag26 : aggSize Tryz.prog 26 = some none := by kernel_rfl
theorem sz26 : szOf Tryz.prog 26 = some 1 := by kernel_rfl
theorem ti27 : tinf Tryz.prog 27 = some { d := TD.other, size := 1, bytes := 8, zero := [PVal.top] } := by kernel_rfl
theorem ag27 : aggSize Tryz.prog 27 = some none := by kernel_rfl
theorem sz27 : szOf Tryz.prog 27 = some 1 := by kernel_rfl
theorem ti28 : tinf Tryz.prog 28 = some { d := TD.other, size := 1, bytes := 0, zero := [PVal.top] } := by kernel_rfl
theorem ag28 : aggSize Tryz.prog 28 = some none := by kernel_rfl
theorem sz28 : szOf Tryz.prog 28 = some 1 := by kernel_rfl
theorem ti29 : tinf Tryz.prog 29 = some { d := TD.other, size := 1, bytes := 8, zero := [PVal.top] } := by kernel_rfl
theorem ag29 : aggSize Tryz.prog 29 = some none := by kernel_rfl
theorem sz29 : szOf Tryz.prog 29 = some 1 := by kernel_rfl
theorem ti30 : tinf Tryz.prog 30 = some { d := TD.other, size := 1, bytes := 8, zero := [PVal.top] } := by kernel_rfl
theorem ag30 : aggSize Tryz.prog 30 = some none := by kernel_rfl
theorem sz30 : szOf Tryz.prog 30 = some 1 := by kernel_rfl
theorem ti31 : tinf Tryz.prog 31 = some { d := TD.other, size := 1, bytes := 8, zero := [PVal.top] } := by kernel_rfl
theorem ag31 : aggSize Tryz.prog 31 = some none := by kernel_rfl
theorem sz31 : szOf Tryz.prog 31 = some 1 := by kernel_rfl
theorem ti32 : tinf Tryz.prog 32 = some { d := TD.other, size := 1, bytes := 8, zero := [PVal.top] } := by kernel_rfl
theorem ag32 : aggSize Tryz.prog 32 = some none := by kernel_rfl
theorem sz32 : szOf Tryz.prog 32 = some 1 := by kernel_rfl
theorem ti33 : tinf Tryz.prog 33 = some { d := TD.other, size := 1, bytes := 8, zero := [PVal.top] } := by kernel_rfl
theorem ag33 : aggSize Tryz.prog 33 = some none := by kernel_rfl
theorem sz33 : szOf Tryz.prog 33 = some 1 := by kernel_rfl
theorem ti34 : tinf Tryz.prog 34 = some { d := TD.other, size := 1, bytes := 8, zero := [PVal.top] } := by kernel_rfl
theorem ag34 : aggSize Tryz.prog 34 = some none := by kernel_rfl
theorem sz34 : szOf Tryz.prog 34 = some 1 := by kernel_rfl
theorem ti35 : tinf Tryz.prog 35 = some { d := TD.other, size := 1, bytes := 8, zero := [PVal.top] } := by kernel_rfl
theorem ag35 : aggSize Tryz.prog 35 = some none := by kernel_rfl
theorem sz35 : szOf Tryz.prog 35 = some 1 := by kernel_rfl
theorem ti36 : tinf Tryz.prog 36 = some { d := TD.other, size := 1, bytes := 0, zero := [PVal.top] } := by kernel_rfl
theorem ag36 : aggSize Tryz.prog 36 = some none := by kernel_rfl
theorem sz36 : szOf Tryz.prog 36 = some 1 := by kernel_rfl
theorem ti37 : tinf Tryz.prog 37 = some { d := TD.other, size := 1, bytes := 8, zero := [PVal.top] } := by kernel_rfl
theorem ag37 : aggSize Tryz.prog 37 = some none := by kernel_rfl
theorem sz37 : szOf Tryz.prog 37 = some 1 := by kernel_rfl
theorem ti38 : tinf Tryz.prog 38 = some { d := TD.other, size := 1, bytes := 8, zero := [PVal.top] } := by kernel_rfl
theorem ag38 : aggSize Tryz.prog 38 = some none := by kernel_rfl
theorem sz38 : szOf Tryz.prog 38 = some 1 := by kernel_rfl
theorem ti39 : tinf Tryz.prog 39 = some { d := TD.slice 82, size := 1, bytes := 24, zero := [PVal.nilS] } := by kernel_rfl
theorem ag39 : aggSize Tryz.prog 39 = some none := by kernel_rfl
theorem sz39 : szOf Tryz.prog 39 = some 1 := by kernel_rfl
theorem ti40 : tinf Tryz.prog 40 = some { d := TD.other, size := 1, bytes := 8, zero := [PVal.top] } := by kernel_rfl
theorem ag40 : aggSize Tryz.prog 40 = some none := by kernel_rfl
theorem sz40 : szOf Tryz.prog 40 = some 1 := by kernel_rfl
theorem ti41 : tinf Tryz.prog 41 = some { d := TD.other, size := 1, bytes := 8, zero := [PVal.top] } := by kernel_rfl
theorem ag41 : aggSize Tryz.prog 41 = some none := by kernel_rfl
theorem sz41 : szOf Tryz.prog 41 = some 1 := by kernel_rfl
theorem ti42 : tinf Tryz.prog 42 = some { d := TD.other, size := 1, bytes := 8, zero := [PVal.top] } := by kernel_rfl
theorem ag42 : aggSize Tryz.prog 42 = some none := by kernel_rfl
theorem sz42 : szOf Tryz.prog 42 = some 1 := by kernel_rfl
theorem ti43 : tinf Tryz.prog 43 = some { d := TD.other, size := 1, bytes := 8, zero := [PVal.top] } := by kernel_rfl
theorem ag43 : aggSize Tryz.prog 43 = some none := by kernel_rfl
theorem sz43 : szOf Tryz.prog 43 = some 1 := by kernel_rfl
theorem ti44 : tinf Tryz.prog 44 = some { d := TD.slice 52, size := 1, bytes := 24, zero := [PVal.nilS] } := by kernel_rfl
theorem ag44 : aggSize Tryz.prog 44 = some none := by kernel_rfl
theorem sz44 : szOf Tryz.prog 44 = some 1 := by kernel_rfl
theorem ti45 : tinf Tryz.prog 45 = some { d := TD.other, size := 1, bytes := 0, zero := [PVal.top] } := by kernel_rfl
theorem ag45 : aggSize Tryz.prog 45 = some none := by kernel_rfl
theorem sz45 : szOf Tryz.prog 45 = some 1 := by kernel_rfl
theorem ti46 : tinf Tryz.prog 46 = some { d := TD.other, size := 1, bytes := 8, zero := [PVal.top] } := by kernel_rfl
theorem ag46 : aggSize Tryz.prog 46 = some none := by kernel_rfl
theorem sz46 : szOf Tryz.prog 46 = some 1 := by kernel_rfl
theorem ti47 : tinf Tryz.prog 47 = some { d := TD.other, size := 1, bytes := 0, zero := [PVal.top] } := by kernel_rfl
theorem ag47 : aggSize Tryz.prog 47 = some none := by kernel_rfl
theorem sz47 : szOf Tryz.prog 47 = some 1 := by kernel_rfl
theorem ti48 : tinf Tryz.prog 48 = some { d := TD.other, size := 1, bytes := 8, zero := [PVal.top] } := by kernel_rfl
theorem ag48 : aggSize Tryz.prog 48 = some none := by kernel_rfl
theorem sz48 : szOf Tryz.prog 48 = some 1 := by kernel_rfl
theorem ti49 : tinf Tryz.prog 49 = some { d := TD.other, size := 1, bytes := 8, zero := [PVal.top] } := by kernel_rfl
theorem ag49 : aggSize Tryz.prog 49 = some none := by kernel_rfl
theorem sz49 : szOf Tryz.prog 49 = some 1 := by kernel_rfl
theorem ti50 : tinf Tryz.prog 50 = some { d := TD.other, size := 1, bytes := 8, zero := [PVal.top] } := by kernel_rfl
theorem ag50 : aggSize Tryz.prog 50 = some none := by kernel_rfl
theorem sz50 : szOf Tryz.prog 50 = some 1 := by kernel_rfl
theorem ti51 : tinf Tryz.prog 51 = some { d := TD.struct [(3, 0), (3, 1), (3, 2)], size := 3, bytes := 24, zero := [PVal.dat (Dat.int IntKind.i64 (0)), PVal.dat (Dat.int IntKind.i64 (0)), PVal.dat (Dat.int IntKind.i64 (0))] } := by kernel_rfl
theorem so51 : sizesOf Tryz.prog [(3, 0), (3, 1), (3, 2)] = some [(0, 1), (1, 1), (2, 1)] := by kernel_rfl
theorem ag51 : aggSize Tryz.prog 51 = some (some 3) := by kernel_rfl
theorem sz51 : szOf Tryz.prog 51 = some 3 := by kernel_rfl
theorem eq51 : eqOk Tryz.prog 51 = some [SK.i IntKind.i64, SK.i IntKind.i64, SK.i IntKind.i64] := by kernel_rfl
theorem ti52 : tinf Tryz.prog 52 = some { d := TD.struct [(3, 0), (3, 1), (3, 2)], size := 3, bytes := 24, zero := [PVal.dat (Dat.int IntKind.i64 (0)), PVal.dat (Dat.int IntKind.i64 (0)), PVal.dat (Dat.int IntKind.i64 (0))] } := by kernel_rfl
theorem so52 : sizesOf Tryz.prog [(3, 0), (3, 1), (3, 2)] = some [(0, 1), (1, 1), (2, 1)] := by kernel_rfl
theorem ag52 : aggSize Tryz.prog 52 = some (some 3) := by kernel_rfl
theorem sz52 : szOf Tryz.prog 52 = some 3 := by kernel_rfl
theorem eq52 : eqOk Tryz.prog 52 = some [SK.i IntKind.i64, SK.i IntKind.i64, SK.i IntKind.i64] := by kernel_rfl
theorem ti53 : tinf Tryz.prog 53 = some { d := TD.other, size := 1, bytes := 0, zero := [PVal.top] } := by kernel_rfl
theorem ag53 : aggSize Tryz.prog 53 = some none := by kernel_rfl
theorem sz53 : szOf Tryz.prog 53 = some 1 := by kernel_rfl
theorem ti54 : tinf Tryz.prog 54 = some { d := TD.other, size := 1, bytes := 8, zero := [PVal.top] } := by kernel_rfl
theorem ag54 : aggSize Tryz.prog 54 = some none := by kernel_rfl
theorem sz54 : szOf Tryz.prog 54 = some 1 := by kernel_rfl
theorem ti55 : tinf Tryz.prog 55 = some { d := TD.other, size := 1, bytes := 8, zero := [PVal.top] } := by kernel_rfl
theorem ag55 : aggSize Tryz.prog 55 = some none := by kernel_rfl
theorem sz55 : szOf Tryz.prog 55 = some 1 := by kernel_rfl
theorem ti56 : tinf Tryz.prog 56 = some { d := TD.slice 63, size := 1, bytes := 24, zero := [PVal.nilS] } := by kernel_rfl
theorem ag56 : aggSize Tryz.prog 56 = some none := by kernel_rfl
theorem sz56 : szOf Tryz.prog 56 = some 1 := by kernel_rfl
theorem ti57 : tinf Tryz.prog 57 = some { d := TD.other, size := 1, bytes := 0, zero := [PVal.top] } := by kernel_rfl
theorem ag57 : aggSize Tryz.prog 57 = some none := by kernel_rfl
theorem sz57 : szOf Tryz.prog 57 = some 1 := by kernel_rfl
theorem ti58 : tinf Tryz.prog 58 = some { d := TD.other, size := 1, bytes := 8, zero := [PVal.top] } := by kernel_rfl
theorem ag58 : aggSize Tryz.prog 58 = some none := by kernel_rfl
theorem sz58 : szOf Tryz.prog 58 = some 1 := by kernel_rfl
theorem ti59 : tinf Tryz.prog 59 = some { d := TD.other, size := 1, bytes := 8, zero := [PVal.top] } := by kernel_rfl
theorem ag59 : aggSize Tryz.prog 59 = some none := by kernel_rfl
theorem sz59 : szOf Tryz.prog 59 = some 1 := by kernel_rfl
theorem ti60 : tinf Tryz.prog 60 = some { d := TD.other, size := 1, bytes := 8, zero := [PVal.top] } := by kernel_rfl
theorem ag60 : aggSize Tryz.prog 60 = some none := by kernel_rfl
theorem sz60 : szOf Tryz.prog 60 = some 1 := by kernel_rfl
theorem ti61 : tinf Tryz.prog 61 = some { d := TD.int IntKind.u32, size := 1, bytes := 4, zero := [PVal.dat (Dat.int IntKind.u32 (0))] } := by kernel_rfl
theorem ag61 : aggSize Tryz.prog 61 = some none := by kernel_rfl
theorem sz61 : szOf Tryz.prog 61 = some 1 := by kernel_rfl
theorem ti62 : tinf Tryz.prog 62 = some { d := TD.struct [(3, 0), (61, 1)], size := 2, bytes := 16, zero := [PVal.dat (Dat.int IntKind.i64 (0)), PVal.dat (Dat.int IntKind.u32 (0))] } := by kernel_rfl
theorem so62 : sizesOf Tryz.prog [(3, 0), (61, 1)] = some [(0, 1), (1, 1)] := by kernel_rfl
theorem ag62 : aggSize Tryz.prog 62 = some (some 2) := by kernel_rfl
theorem sz62 : szOf Tryz.prog 62 = some 2 := by kernel_rfl
theorem eq62 : eqOk Tryz.prog 62 = some [SK.i IntKind.i64, SK.i IntKind.u32] := by kernel_rfl
theorem ti63 : tinf Tryz.prog 63 = some { d := TD.struct [(3, 0), (61, 1)], size := 2, bytes := 16, zero := [PVal.dat (Dat.int IntKind.i64 (0)), PVal.dat (Dat.int IntKind.u32 (0))] } := by kernel_rfl
theorem so63 : sizesOf Tryz.prog [(3, 0), (61, 1)] = some [(0, 1), (1, 1)] := by kernel_rfl
theorem ag63 : aggSize Tryz.prog 63 = some (some 2) := by kernel_rfl
theorem sz63 : szOf Tryz.prog 63 = some 2 := by kernel_rfl
theorem eq63 : eqOk Tryz.prog 63 = some [SK.i IntKind.i64, SK.i IntKind.u32] := by kernel_rfl
theorem ti64 : tinf Tryz.prog 64 = some { d := TD.other, size := 1, bytes := 0, zero := [PVal.top] } := by kernel_rfl
theorem ag64 : aggSize Tryz.prog 64 = some none := by kernel_rfl
theorem sz64 : szOf Tryz.prog 64 = some 1 := by kernel_rfl
theorem ti65 : tinf Tryz.prog 65 = some { d := TD.other, size := 1, bytes := 8, zero := [PVal.top] } := by kernel_rfl
theorem ag65 : aggSize Tryz.prog 65 = some none := by kernel_rfl
theorem sz65 : szOf Tryz.prog 65 = some 1 := by kernel_rfl
theorem ti66 : tinf Tryz.prog 66 = some { d := TD.struct [(9, 0), (9, 1), (4, 2), (3, 3), (3, 4), (3, 5)], size := 6, bytes := 64, zero := [PVal.dat (Dat.str { data := { toList := [] } }), PVal.dat (Dat.str { data := { toList := [] } }), PVal.dat (Dat.bool false), PVal.dat (Dat.int IntKind.i64 (0)), PVal.dat (Dat.int IntKind.i64 (0)), PVal.dat (Dat.int IntKind.i64 (0))] } := by kernel_rfl
theorem so66 : sizesOf Tryz.prog [(9, 0), (9, 1), (4, 2), (3, 3), (3, 4), (3, 5)] = some [(0, 1), (1, 1), (2, 1), (3, 1), (4, 1), (5, 1)] := by kernel_rfl
theorem ag66 : aggSize Tryz.prog 66 = some (some 6) := by kernel_rfl
theorem sz66 : szOf Tryz.prog 66 = some 6 := by kernel_rfl
theorem eq66 : eqOk Tryz.prog 66 = some [SK.s, SK.s, SK.b, SK.i IntKind.i64, SK.i IntKind.i64, SK.i IntKind.i64] := by kernel_rfl
theorem ti67 : tinf Tryz.prog 67 = some { d := TD.struct [(9, 0), (9, 1), (4, 2), (3, 3), (3, 4), (3, 5)], size := 6, bytes := 64, zero := [PVal.dat (Dat.str { data := { toList := [] } }), PVal.dat (Dat.str { data := { toList := [] } }), PVal.dat (Dat.bool false), PVal.dat (Dat.int IntKind.i64 (0)), PVal.dat (Dat.int IntKind.i64 (0)), PVal.dat (Dat.int IntKind.i64 (0))] } := by kernel_rfl
theorem so67 : sizesOf Tryz.prog [(9, 0), (9, 1), (4, 2), (3, 3), (3, 4), (3, 5)] = some [(0, 1), (1, 1), (2, 1), (3, 1), (4, 1), (5, 1)] := by kernel_rfl
theorem ag67 : aggSize Tryz.prog 67 = some (some 6) := by kernel_rfl
theorem sz67 : szOf Tryz.prog 67 = some 6 := by kernel_rfl
theorem eq67 : eqOk Tryz.prog 67 = some [SK.s, SK.s, SK.b, SK.i IntKind.i64, SK.i IntKind.i64, SK.i IntKind.i64] := by kernel_rfl
theorem ti68 : tinf Tryz.prog 68 = some { d := TD.slice 185, size := 1, bytes := 24, zero := [PVal.nilS] } := by kernel_rfl
theorem ag68 : aggSize Tryz.prog 68 = some none := by kernel_rfl
theorem sz68 : szOf Tryz.prog 68 = some 1 := by kernel_rfl
theorem ti69 : tinf Tryz.prog 69 = some { d := TD.slice 118, size := 1, bytes := 24, zero := [PVal.nilS] } := by kernel_rfl
theorem ag69 : aggSize Tryz.prog 69 = some none := by kernel_rfl
theorem sz69 : szOf Tryz.prog 69 = some 1 := by kernel_rfl
theorem ti70 : tinf Tryz.prog 70 = some { d := TD.slice 67, size := 1, bytes := 24, zero := [PVal.nilS] } := by kernel_rfl
theorem ag70 : aggSize Tryz.prog 70 = some none := by kernel_rfl
theorem sz70 : szOf Tryz.prog 70 = some 1 := by kernel_rfl
theorem ti71 : tinf Tryz.prog 71 = some { d := TD.slice 121, size := 1, bytes := 24, zero := [PVal.nilS] } := by kernel_rfl
theorem ag71 : aggSize Tryz.prog 71 = some none := by kernel_rfl
theorem sz71 : szOf Tryz.prog 71 = some 1 := by kernel_rfl
theorem ti72 : tinf Tryz.prog 72 = some { d := TD.slice 5, size := 1, bytes := 24, zero := [PVal.nilS] } := by kernel_rfl
theorem ag72 : aggSize Tryz.prog 72 = some none := by kernel_rfl
theorem sz72 : szOf Tryz.prog 72 = some 1 := by kernel_rfl
theorem ti73 : tinf Tryz.prog 73 = some { d := TD.slice 9, size := 1, bytes := 24, zero := [PVal.nilS] } := by kernel_rfl
theorem ag73 : aggSize Tryz.prog 73 = some none := by kernel_rfl
theorem sz73 : szOf Tryz.prog 73 = some 1 := by kernel_rfl
theorem ti74 : tinf Tryz.prog 74 = some { d := TD.slice 235, size := 1, bytes := 24, zero := [PVal.nilS] } := by kernel_rfl
theorem ag74 : aggSize Tryz.prog 74 = some none := by kernel_rfl
theorem sz74 : szOf Tryz.prog 74 = some 1 := by kernel_rfl
theorem ti75 : tinf Tryz.prog 75 = some { d := TD.slice 238, size := 1, bytes := 24, zero := [PVal.nilS] } := by kernel_rfl
theorem ag75 : aggSize Tryz.prog 75 = some none := by kernel_rfl
theorem sz75 : szOf Tryz.prog 75 = some 1 := by kernel_rfl
theorem ti76 : tinf Tryz.prog 76 = some { d := TD.slice 217, size := 1, bytes := 24, zero := [PVal.nilS] } := by kernel_rfl
theorem ag76 : aggSize Tryz.prog 76 = some none := by kernel_rfl
theorem sz76 : szOf Tryz.prog 76 = some 1 := by kernel_rfl
theorem ti77 : tinf Tryz.prog 77 = some { d := TD.slice 242, size := 1, bytes := 24, zero := [PVal.nilS] } := by kernel_rfl
theorem ag77 : aggSize Tryz.prog 77 = some none := by kernel_rfl
theorem sz77 : szOf Tryz.prog 77 = some 1 := by kernel_rfl
theorem ti78 : tinf Tryz.prog 78 = some { d := TD.slice 245, size := 1, bytes := 24, zero := [PVal.nilS] } := by kernel_rfl
theorem ag78 : aggSize Tryz.prog 78 = some none := by kernel_rfl
theorem sz78 : szOf Tryz.prog 78 = some 1 := by kernel_rfl
theorem ti79 : tinf Tryz.prog 79 = some { d := TD.struct [(9, 0), (4, 1), (68, 2), (3, 3), (69, 4), (70, 5), (71, 6), (72, 7), (3, 8), (23, 9), (23, 10), (73, 11), (3, 12), (74, 13), (75, 14), (73, 15), (76, 16), (77, 17), (78, 18)], size := 19, bytes := 384, zero := [PVal.dat (Dat.str { data := { toList := [] } }), PVal.dat (Dat.bool false), PVal.nilS, PVal.dat (Dat.int IntKind.i64 (0)), PVal.nilS, PVal.nilS, PVal.nilS, PVal.nilS, PVal.dat (Dat.int IntKind.i64 (0)), PVal.nilS, PVal.nilS, PVal.nilS, PVal.dat (Dat.int IntKind.i64 (0)), PVal.nilS, PVal.nilS, PVal.nilS, PVal.nilS, PVal.nilS, PVal.nilS] } := by kernel_rfl
theorem so79 : sizesOf Tryz.prog [(9, 0), (4, 1), (68, 2), (3, 3), (69, 4), (70, 5), (71, 6), (72, 7), (3, 8), (23, 9), (23, 10), (73, 11), (3, 12), (74, 13), (75, 14), (73, 15), (76, 16), (77, 17), (78, 18)] = some [(0, 1), (1, 1), (2, 1), (3, 1), (4, 1), (5, 1), (6, 1), (7, 1), (8, 1), (9, 1), (10, 1), (11, 1), (12, 1), (13, 1), (14, 1), (15, 1), (16, 1), (17, 1), (18, 1)] := by kernel_rfl
theorem ag79 : aggSize Tryz.prog 79 = some (some 19) := by kernel_rfl
theorem sz79 : szOf Tryz.prog 79 = some 19 := by kernel_rfl
theorem ti80 : tinf Tryz.prog 80 = some { d := TD.struct [(9, 0), (4, 1), (68, 2), (3, 3), (69, 4), (70, 5), (71, 6), (72, 7), (3, 8), (23, 9), (23, 10), (73, 11), (3, 12), (74, 13), (75, 14), (73, 15), (76, 16), (77, 17), (78, 18)], size := 19, bytes := 384, zero := [PVal.dat (Dat.str { data := { toList := [] } }), PVal.dat (Dat.bool false), PVal.nilS, PVal.dat (Dat.int IntKind.i64 (0)), PVal.nilS, PVal.nilS, PVal.nilS, PVal.nilS, PVal.dat (Dat.int IntKind.i64 (0)), PVal.nilS, PVal.nilS, PVal.nilS, PVal.dat (Dat.int IntKind.i64 (0)), PVal.nilS, PVal.nilS, PVal.nilS, PVal.nilS, PVal.nilS, PVal.nilS] } := by kernel_rfl
theorem so80 : sizesOf Tryz.prog [(9, 0), (4, 1), (68, 2), (3, 3), (69, 4), (70, 5), (71, 6), (72, 7), (3, 8), (23, 9), (23, 10), (73, 11), (3, 12), (74, 13), (75, 14), (73, 15), (76, 16), (77, 17), (78, 18)] = some [(0, 1), (1, 1), (2, 1), (3, 1), (4, 1), (5, 1), (6, 1), (7, 1), (8, 1), (9, 1), (10, 1), (11, 1), (12, 1), (13, 1), (14, 1), (15, 1), (16, 1), (17, 1), (18, 1)] := by kernel_rfl
theorem ag80 : aggSize Tryz.prog 80 = some (some 19) := by kernel_rfl
theorem sz80 : szOf Tryz.prog 80 = some 19 := by kernel_rfl
theorem ti81 : tinf Tryz.prog 81 = some { d := TD.struct [(80, 0), (3, 19), (3, 20), (3, 21)], size := 22, bytes := 408, zero := [PVal.dat (Dat.str { data := { toList := [] } }), PVal.dat (Dat.bool false), PVal.nilS, PVal.dat (Dat.int IntKind.i64 (0)), PVal.nilS, PVal.nilS, PVal.nilS, PVal.nilS, PVal.dat (Dat.int IntKind.i64 (0)), PVal.nilS, PVal.nilS, PVal.nilS, PVal.dat (Dat.int IntKind.i64 (0)), PVal.nilS, PVal.nilS, PVal.nilS, PVal.nilS, PVal.nilS, PVal.nilS, PVal.dat (Dat.int IntKind.i64 (0)), PVal.dat (Dat.int IntKind.i64 (0)), PVal.dat (Dat.int IntKind.i64 (0))] } := by kernel_rfl
theorem so81 : sizesOf Tryz.prog [(80, 0), (3, 19), (3, 20), (3, 21)] = some [(0, 19), (19, 1), (20, 1), (21, 1)] := by kernel_rfl
theorem ag81 : aggSize Tryz.prog 81 = some (some 22) := by kernel_rfl
theorem sz81 : szOf Tryz.prog 81 = some 22 := by kernel_rfl
theorem ti82 : tinf Tryz.prog 82 = some { d := TD.struct [(80, 0), (3, 19), (3, 20), (3, 21)], size := 22, bytes := 408, zero := [PVal.dat (Dat.str { data := { toList := [] } }), PVal.dat (Dat.bool false), PVal.nilS, PVal.dat (Dat.int IntKind.i64 (0)), PVal.nilS, PVal.nilS, PVal.nilS, PVal.nilS, PVal.dat (Dat.int IntKind.i64 (0)), PVal.nilS, PVal.nilS, PVal.nilS, PVal.dat (Dat.int IntKind.i64 (0)), PVal.nilS, PVal.nilS, PVal.nilS, PVal.nilS, PVal.nilS, PVal.nilS, PVal.dat (Dat.int IntKind.i64 (0)), PVal.dat (Dat.int IntKind.i64 (0)), PVal.dat (Dat.int IntKind.i64 (0))] } := by kernel_rfl
theorem so82 : sizesOf Tryz.prog [(80, 0), (3, 19), (3, 20), (3, 21)] = some [(0, 19), (19, 1), (20, 1), (21, 1)] := by kernel_rfl
theorem ag82 : aggSize Tryz.prog 82 = some (some 22) := by kernel_rfl
theorem sz82 : szOf Tryz.prog 82 = some 22 := by kernel_rfl
theorem ti83 : tinf Tryz.prog 83 = some { d := TD.other, size := 1, bytes := 0, zero := [PVal.top] } := by kernel_rfl
theorem ag83 : aggSize Tryz.prog 83 = some none := by kernel_rfl
theorem sz83 : szOf Tryz.prog 83 = some 1 := by kernel_rfl
theorem ti84 : tinf Tryz.prog 84 = some { d := TD.other, size := 1, bytes := 8, zero := [PVal.top] } := by kernel_rfl
theorem ag84 : aggSize Tryz.prog 84 = some none := by kernel_rfl
theorem sz84 : szOf Tryz.prog 84 = some 1 := by kernel_rfl
theorem ti85 : tinf Tryz.prog 85 = some { d := TD.slice 140, size := 1, bytes := 24, zero := [PVal.nilS] } := by kernel_rfl
theorem ag85 : aggSize Tryz.prog 85 = some none := by kernel_rfl
theorem sz85 : szOf Tryz.prog 85 = some 1 := by kernel_rfl
theorem ti86 : tinf Tryz.prog 86 = some { d := TD.slice 140, size := 1, bytes := 24, zero := [PVal.nilS] } := by kernel_rfl
theorem ag86 : aggSize Tryz.prog 86 = some none := by kernel_rfl
theorem sz86 : szOf Tryz.prog 86 = some 1 := by kernel_rfl
theorem ti87 : tinf Tryz.prog 87 = some { d := TD.slice 152, size := 1, bytes := 24, zero := [PVal.nilS] } := by kernel_rfl
theorem ag87 : aggSize Tryz.prog 87 = some none := by kernel_rfl
theorem sz87 : szOf Tryz.prog 87 = some 1 := by kernel_rfl
theorem ti88 : tinf Tryz.prog 88 = some { d := TD.struct [(39, 0), (86, 1), (87, 2), (23, 3), (4, 4)], size := 5, bytes := 104, zero := [PVal.nilS, PVal.nilS, PVal.nilS, PVal.nilS, PVal.dat (Dat.bool false)] } := by kernel_rfl
theorem so88 : sizesOf Tryz.prog [(39, 0), (86, 1), (87, 2), (23, 3), (4, 4)] = some [(0, 1), (1, 1), (2, 1), (3, 1), (4, 1)] := by kernel_rfl
theorem ag88 : aggSize Tryz.prog 88 = some (some 5) := by kernel_rfl
theorem sz88 : szOf Tryz.prog 88 = some 5 := by kernel_rfl
theorem ti89 : tinf Tryz.prog 89 = some { d := TD.struct [(39, 0), (86, 1), (87, 2), (23, 3), (4, 4)], size := 5, bytes := 104, zero := [PVal.nilS, PVal.nilS, PVal.nilS, PVal.nilS, PVal.dat (Dat.bool false)] } := by kernel_rfl
theorem so89 : sizesOf Tryz.prog [(39, 0), (86, 1), (87, 2), (23, 3), (4, 4)] = some [(0, 1), (1, 1), (2, 1), (3, 1), (4, 1)] := by kernel_rfl
theorem ag89 : aggSize Tryz.prog 89 = some (some 5) := by kernel_rfl
theorem sz89 : szOf Tryz.prog 89 = some 5 := by kernel_rfl
theorem ti90 : tinf Tryz.prog 90 = some { d := TD.other, size := 1, bytes := 0, zero := [PVal.top] } := by kernel_rfl
theorem ag90 : aggSize Tryz.prog 90 = some none := by kernel_rfl
theorem sz90 : szOf Tryz.prog 90 = some 1 := by kernel_rfl
theorem ti91 : tinf Tryz.prog 91 = some { d := TD.other, size := 1, bytes := 8, zero := [PVal.top] } := by kernel_rfl
theorem ag91 : aggSize Tryz.prog 91 = some none := by kernel_rfl
theorem sz91 : szOf Tryz.prog 91 = some 1 := by kernel_rfl
theorem ti92 : tinf Tryz.prog 92 = some { d := TD.other, size := 1, bytes := 8, zero := [PVal.top] } := by kernel_rfl
theorem ag92 : aggSize Tryz.prog 92 = some none := by kernel_rfl
theorem sz92 : szOf Tryz.prog 92 = some 1 := by kernel_rfl
theorem ti93 : tinf Tryz.prog 93 = some { d := TD.other, size := 1, bytes := 8, zero := [PVal.top] } := by kernel_rfl
theorem ag93 : aggSize Tryz.prog 93 = some none := by kernel_rfl
theorem sz93 : szOf Tryz.prog 93 = some 1 := by kernel_rfl
theorem ti94 : tinf Tryz.prog 94 = some { d := TD.other, size := 1, bytes := 8, zero := [PVal.top] } := by kernel_rfl
theorem ag94 : aggSize Tryz.prog 94 = some none := by kernel_rfl
theorem sz94 : szOf Tryz.prog 94 = some 1 := by kernel_rfl
theorem ti95 : tinf Tryz.prog 95 = some { d := TD.other, size := 1, bytes := 8, zero := [PVal.top] } := by kernel_rfl
theorem ag95 : aggSize Tryz.prog 95 = some none := by kernel_rfl
theorem sz95 : szOf Tryz.prog 95 = some 1 := by kernel_rfl
theorem ti96 : tinf Tryz.prog 96 = some { d := TD.other, size := 1, bytes := 0, zero := [PVal.top] } := by kernel_rfl
theorem ag96 : aggSize Tryz.prog 96 = some none := by kernel_rfl
theorem sz96 : szOf Tryz.prog 96 = some 1 := by kernel_rfl
theorem ti97 : tinf Tryz.prog 97 = some { d := TD.other, size := 1, bytes := 8, zero := [PVal.top] } := by kernel_rfl
theorem ag97 : aggSize Tryz.prog 97 = some none := by kernel_rfl
theorem sz97 : szOf Tryz.prog 97 = some 1 := by kernel_rfl
theorem ti98 : tinf Tryz.prog 98 = some { d := TD.other, size := 1, bytes := 8, zero := [PVal.top] } := by kernel_rfl
theorem ag98 : aggSize Tryz.prog 98 = some none := by kernel_rfl
theorem sz98 : szOf Tryz.prog 98 = some 1 := by kernel_rfl
theorem ti99 : tinf Tryz.prog 99 = some { d := TD.other, size := 1, bytes := 8, zero := [PVal.top] } := by kernel_rfl
theorem ag99 : aggSize Tryz.prog 99 = some none := by kernel_rfl
theorem sz99 : szOf Tryz.prog 99 = some 1 := by kernel_rfl
theorem ti100 : tinf Tryz.prog 100 = some { d := TD.other, size := 1, bytes := 8, zero := [PVal.top] } := by kernel_rfl
theorem ag100 : aggSize Tryz.prog 100 = some none := by kernel_rfl
theorem sz100 : szOf Tryz.prog 100 = some 1 := by kernel_rfl
theorem ti101 : tinf Tryz.prog 101 = some { d := TD.other, size := 1, bytes := 8, zero := [PVal.top] } := by kernel_rfl
theorem ag101 : aggSize Tryz.prog 101 = some none := by kernel_rfl
theorem sz101 : szOf Tryz.prog 101 = some 1 := by kernel_rfl
theorem ti102 : tinf Tryz.prog 102 = some { d := TD.slice 23, size := 1, bytes := 24, zero := [PVal.nilS] } := by kernel_rfl
theorem ag102 : aggSize Tryz.prog 102 = some none := by kernel_rfl
theorem sz102 : szOf Tryz.prog 102 = some 1 := by kernel_rfl
theorem ti103 : tinf Tryz.prog 103 = some { d := TD.other, size := 1, bytes := 0, zero := [PVal.top] } := by kernel_rfl
theorem ag103 : aggSize Tryz.prog 103 = some none := by kernel_rfl
theorem sz103 : szOf Tryz.prog 103 = some 1 := by kernel_rfl
theorem ti104 : tinf Tryz.prog 104 = some { d := TD.other, size := 1, bytes := 8, zero := [PVal.top] } := by kernel_rfl
theorem ag104 : aggSize Tryz.prog 104 = some none := by kernel_rfl
theorem sz104 : szOf Tryz.prog 104 = some 1 := by kernel_rfl
theorem ti105 : tinf Tryz.prog 105 = some { d := TD.other, size := 1, bytes := 8, zero := [PVal.top] } := by kernel_rfl
theorem ag105 : aggSize Tryz.prog 105 = some none := by kernel_rfl
theorem sz105 : szOf Tryz.prog 105 = some 1 := by kernel_rfl
theorem ti106 : tinf Tryz.prog 106 = some { d := TD.other, size := 1, bytes := 8, zero := [PVal.top] } := by kernel_rfl
theorem ag106 : aggSize Tryz.prog 106 = some none := by kernel_rfl
theorem sz106 : szOf Tryz.prog 106 = some 1 := by kernel_rfl
theorem ti107 : tinf Tryz.prog 107 = some { d := TD.other, size := 1, bytes := 8, zero := [PVal.top] } := by kernel_rfl
theorem ag107 : aggSize Tryz.prog 107 = some none := by kernel_rfl
theorem sz107 : szOf Tryz.prog 107 = some 1 := by kernel_rfl
theorem ti108 : tinf Tryz.prog 108 = some { d := TD.other, size := 1, bytes := 8, zero := [PVal.top] } := by kernel_rfl
theorem ag108 : aggSize Tryz.prog 108 = some none := by kernel_rfl
theorem sz108 : szOf Tryz.prog 108 = some 1 := by kernel_rfl
theorem ti109 : tinf Tryz.prog 109 = some { d := TD.other, size := 1, bytes := 8, zero := [PVal.top] } := by kernel_rfl
theorem ag109 : aggSize Tryz.prog 109 = some none := by kernel_rfl
theorem sz109 : szOf Tryz.prog 109 = some 1 := by kernel_rfl
theorem ti110 : tinf Tryz.prog 110 = some { d := TD.other, size := 1, bytes := 8, zero := [PVal.top] } := by kernel_rfl
theorem ag110 : aggSize Tryz.prog 110 = some none := by kernel_rfl
theorem sz110 : szOf Tryz.prog 110 = some 1 := by kernel_rfl
theorem ti111 : tinf Tryz.prog 111 = some { d := TD.other, size := 1, bytes := 8, zero := [PVal.top] } := by kernel_rfl
theorem ag111 : aggSize Tryz.prog 111 = some none := by kernel_rfl
theorem sz111 : szOf Tryz.prog 111 = some 1 := by kernel_rfl
theorem ti112 : tinf Tryz.prog 112 = some { d := TD.other, size := 1, bytes := 8, zero := [PVal.top] } := by kernel_rfl
theorem ag112 : aggSize Tryz.prog 112 = some none := by kernel_rfl
theorem sz112 : szOf Tryz.prog 112 = some 1 := by kernel_rfl
theorem ti113 : tinf Tryz.prog 113 = some { d := TD.other, size := 1, bytes := 8, zero := [PVal.top] } := by kernel_rfl
theorem ag113 : aggSize Tryz.prog 113 = some none := by kernel_rfl
theorem sz113 : szOf Tryz.prog 113 = some 1 := by kernel_rfl
theorem ti114 : tinf Tryz.prog 114 = some { d := TD.other, size := 1, bytes := 8, zero := [PVal.top] } := by kernel_rfl
theorem ag114 : aggSize Tryz.prog 114 = some none := by kernel_rfl
theorem sz114 : szOf Tryz.prog 114 = some 1 := by kernel_rfl
theorem ti115 : tinf Tryz.prog 115 = some { d := TD.other, size := 1, bytes := 8, zero := [PVal.top] } := by kernel_rfl
theorem ag115 : aggSize Tryz.prog 115 = some none := by kernel_rfl
theorem sz115 : szOf Tryz.prog 115 = some 1 := by kernel_rfl
theorem ti116 : tinf Tryz.prog 116 = some { d := TD.other, size := 1, bytes := 8, zero := [PVal.top] } := by kernel_rfl
theorem ag116 : aggSize Tryz.prog 116 = some none := by kernel_rfl
theorem sz116 : szOf Tryz.prog 116 = some 1 := by kernel_rfl
theorem ti117 : tinf Tryz.prog 117 = some { d := TD.struct [(9, 0), (9, 1), (4, 2), (4, 3), (4, 4), (3, 5), (3, 6)], size := 7, bytes := 56, zero := [PVal.dat (Dat.str { data := { toList := [] } }), PVal.dat (Dat.str { data := { toList := [] } }), PVal.dat (Dat.bool false), PVal.dat (Dat.bool false), PVal.dat (Dat.bool false), PVal.dat (Dat.int IntKind.i64 (0)), PVal.dat (Dat.int IntKind.i64 (0))] } := by kernel_rfl
theorem so117 : sizesOf Tryz.prog [(9, 0), (9, 1), (4, 2), (4, 3), (4, 4), (3, 5), (3, 6)] = some [(0, 1), (1, 1), (2, 1), (3, 1), (4, 1), (5, 1), (6, 1)] := by kernel_rfl
theorem ag117 : aggSize Tryz.prog 117 = some (some 7) := by kernel_rfl
theorem sz117 : szOf Tryz.prog 117 = some 7 := by kernel_rfl
theorem eq117 : eqOk Tryz.prog 117 = some [SK.s, SK.s, SK.b, SK.b, SK.b, SK.i IntKind.i64, SK.i IntKind.i64] := by kernel_rfl
theorem ti118 : tinf Tryz.prog 118 = some { d := TD.struct [(9, 0), (9, 1), (4, 2), (4, 3), (4, 4), (3, 5), (3, 6)], size := 7, bytes := 56, zero := [PVal.dat (Dat.str { data := { toList := [] } }), PVal.dat (Dat.str { data := { toList := [] } }), PVal.dat (Dat.bool false), PVal.dat (Dat.bool false), PVal.dat (Dat.bool false), PVal.dat (Dat.int IntKind.i64 (0)), PVal.dat (Dat.int IntKind.i64 (0))] } := by kernel_rfl
theorem so118 : sizesOf Tryz.prog [(9, 0), (9, 1), (4, 2), (4, 3), (4, 4), (3, 5), (3, 6)] = some [(0, 1), (1, 1), (2, 1), (3, 1), (4, 1), (5, 1), (6, 1)] := by kernel_rfl
theorem ag118 : aggSize Tryz.prog 118 = some (some 7) := by kernel_rfl
theorem sz118 : szOf Tryz.prog 118 = some 7 := by kernel_rfl
theorem eq118 : eqOk Tryz.prog 118 = some [SK.s, SK.s, SK.b, SK.b, SK.b, SK.i IntKind.i64, SK.i IntKind.i64] := by kernel_rfl
theorem ti119 : tinf Tryz.prog 119 = some { d := TD.other, size := 1, bytes := 8, zero := [PVal.top] } := by kernel_rfl
theorem ag119 : aggSize Tryz.prog 119 = some none := by kernel_rfl
theorem sz119 : szOf Tryz.prog 119 = some 1 := by kernel_rfl
theorem ti120 : tinf Tryz.prog 120 = some { d := TD.struct [(3, 0), (3, 1), (3, 2), (3, 3)], size := 4, bytes := 32, zero := [PVal.dat (Dat.int IntKind.i64 (0)), PVal.dat (Dat.int IntKind.i64 (0)), PVal.dat (Dat.int IntKind.i64 (0)), PVal.dat (Dat.int IntKind.i64 (0))] } := by kernel_rfl
theorem so120 : sizesOf Tryz.prog [(3, 0), (3, 1), (3, 2), (3, 3)] = some [(0, 1), (1, 1), (2, 1), (3, 1)] := by kernel_rfl
theorem ag120 : aggSize Tryz.prog 120 = some (some 4) := by kernel_rfl
theorem sz120 : szOf Tryz.prog 120 = some 4 := by kernel_rfl
theorem eq120 : eqOk Tryz.prog 120 = some [SK.i IntKind.i64, SK.i IntKind.i64, SK.i IntKind.i64, SK.i IntKind.i64] := by kernel_rfl
theorem ti121 : tinf Tryz.prog 121 = some { d := TD.struct [(3, 0), (3, 1), (3, 2), (3, 3)], size := 4, bytes := 32, zero := [PVal.dat (Dat.int IntKind.i64 (0)), PVal.dat (Dat.int IntKind.i64 (0)), PVal.dat (Dat.int IntKind.i64 (0)), PVal.dat (Dat.int IntKind.i64 (0))] } := by kernel_rfl
theorem so121 : sizesOf Tryz.prog [(3, 0), (3, 1), (3, 2), (3, 3)] = some [(0, 1), (1, 1), (2, 1), (3, 1)] := by kernel_rfl
theorem ag121 : aggSize Tryz.prog 121 = some (some 4) := by kernel_rfl
theorem sz121 : szOf Tryz.prog 121 = some 4 := by kernel_rfl
theorem eq121 : eqOk Tryz.prog 121 = some [SK.i IntKind.i64, SK.i IntKind.i64, SK.i IntKind.i64, SK.i IntKind.i64] := by kernel_rfl
theorem ti122 : tinf Tryz.prog 122 = some { d := TD.other, size := 1, bytes := 8, zero := [PVal.top] } := by kernel_rfl
theorem ag122 : aggSize Tryz.prog 122 = some none := by kernel_rfl
theorem sz122 : szOf Tryz.prog 122 = some 1 := by kernel_rfl
theorem ti123 : tinf Tryz.prog 123 = some { d := TD.other, size := 1, bytes := 0, zero := [PVal.top] } := by kernel_rfl
theorem ag123 : aggSize Tryz.prog 123 = some none := by kernel_rfl
theorem sz123 : szOf Tryz.prog 123 = some 1 := by kernel_rfl
theorem ti124 : tinf Tryz.prog 124 = some { d := TD.other, size := 1, bytes := 8, zero := [PVal.top] } := by kernel_rfl
theorem ag124 : aggSize Tryz.prog 124 = some none := by kernel_rfl
theorem sz124 : szOf Tryz.prog 124 = some 1 := by kernel_rfl
theorem ti125 : tinf Tryz.prog 125 = some { d := TD.other, size := 1, bytes := 8, zero := [PVal.top] } := by kernel_rfl
theorem ag125 : aggSize Tryz.prog 125 = some none := by kernel_rfl
theorem sz125 : szOf Tryz.prog 125 = some 1 := by kernel_rfl
theorem ti126 : tinf Tryz.prog 126 = some { d := TD.struct [(39, 0), (22, 1), (23, 2)], size := 3, bytes := 72, zero := [PVal.nilS, PVal.nilS, PVal.nilS] } := by kernel_rfl
theorem so126 : sizesOf Tryz.prog [(39, 0), (22, 1), (23, 2)] = some [(0, 1), (1, 1), (2, 1)] := by kernel_rfl
theorem ag126 : aggSize Tryz.prog 126 = some (some 3) := by kernel_rfl
theorem sz126 : szOf Tryz.prog 126 = some 3 := by kernel_rfl
theorem ti127 : tinf Tryz.prog 127 = some { d := TD.struct [(39, 0), (22, 1), (23, 2)], size := 3, bytes := 72, zero := [PVal.nilS, PVal.nilS, PVal.nilS] } := by kernel_rfl
theorem so127 : sizesOf Tryz.prog [(39, 0), (22, 1), (23, 2)] = some [(0, 1), (1, 1), (2, 1)] := by kernel_rfl
theorem ag127 : aggSize Tryz.prog 127 = some (some 3) := by kernel_rfl
theorem sz127 : szOf Tryz.prog 127 = some 3 := by kernel_rfl
theorem ti128 : tinf Tryz.prog 128 = some { d := TD.other, size := 1, bytes := 8, zero := [PVal.top] } := by kernel_rfl
theorem ag128 : aggSize Tryz.prog 128 = some none := by kernel_rfl
theorem sz128 : szOf Tryz.prog 128 = some 1 := by kernel_rfl
theorem ti129 : tinf Tryz.prog 129 = some { d := TD.other, size := 1, bytes := 8, zero := [PVal.top] } := by kernel_rfl
theorem ag129 : aggSize Tryz.prog 129 = some none := by kernel_rfl
theorem sz129 : szOf Tryz.prog 129 = some 1 := by kernel_rfl
theorem ti130 : tinf Tryz.prog 130 = some { d := TD.other, size := 1, bytes := 8, zero := [PVal.top] } := by kernel_rfl
theorem ag130 : aggSize Tryz.prog 130 = some none := by kernel_rfl
theorem sz130 : szOf Tryz.prog 130 = some 1 := by kernel_rfl
theorem ti131 : tinf Tryz.prog 131 = some { d := TD.other, size := 1, bytes := 8, zero := [PVal.top] } := by kernel_rfl
theorem ag131 : aggSize Tryz.prog 131 = some none := by kernel_rfl
theorem sz131 : szOf Tryz.prog 131 = some 1 := by kernel_rfl
theorem ti132 : tinf Tryz.prog 132 = some { d := TD.struct [(89, 0)], size := 5, bytes := 104, zero := [PVal.nilS, PVal.nilS, PVal.nilS, PVal.nilS, PVal.dat (Dat.bool false)] } := by kernel_rfl
theorem so132 : sizesOf Tryz.prog [(89, 0)] = some [(0, 5)] := by kernel_rfl
theorem ag132 : aggSize Tryz.prog 132 = some (some 5) := by kernel_rfl
theorem sz132 : szOf Tryz.prog 132 = some 5 := by kernel_rfl
theorem ti133 : tinf Tryz.prog 133 = some { d := TD.struct [(89, 0)], size := 5, bytes := 104, zero := [PVal.nilS, PVal.nilS, PVal.nilS, PVal.nilS, PVal.dat (Dat.bool false)] } := by kernel_rfl
theorem so133 : sizesOf Tryz.prog [(89, 0)] = some [(0, 5)] := by kernel_rfl
theorem ag133 : aggSize Tryz.prog 133 = some (some 5) := by kernel_rfl
theorem sz133 : szOf Tryz.prog 133 = some 5 := by kernel_rfl
theorem ti134 : tinf Tryz.prog 134 = some { d := TD.other, size := 1, bytes := 8, zero := [PVal.top] } := by kernel_rfl
theorem ag134 : aggSize Tryz.prog 134 = some none := by kernel_rfl
theorem sz134 : szOf Tryz.prog 134 = some 1 := by kernel_rfl
theorem ti135 : tinf Tryz.prog 135 = some { d := TD.other, size := 1, bytes := 8, zero := [PVal.top] } := by kernel_rfl
theorem ag135 : aggSize Tryz.prog 135 = some none := by kernel_rfl
theorem sz135 : szOf Tryz.prog 135 = some 1 := by kernel_rfl
theorem ti136 : tinf Tryz.prog 136 = some { d := TD.other, size := 1, bytes := 8, zero := [PVal.top] } := by kernel_rfl
theorem ag136 : aggSize Tryz.prog 136 = some none := by kernel_rfl
theorem sz136 : szOf Tryz.prog 136 = some 1 := by kernel_rfl
theorem ti137 : tinf Tryz.prog 137 = some { d := TD.other, size := 1, bytes := 8, zero := [PVal.top] } := by kernel_rfl
theorem ag137 : aggSize Tryz.prog 137 = some none := by kernel_rfl
theorem sz137 : szOf Tryz.prog 137 = some 1 := by kernel_rfl
theorem ti138 : tinf Tryz.prog 138 = some { d := TD.other, size := 1, bytes := 8, zero := [PVal.top] } := by kernel_rfl
theorem ag138 : aggSize Tryz.prog 138 = some none := by kernel_rfl
theorem sz138 : szOf Tryz.prog 138 = some 1 := by kernel_rfl
theorem ti139 : tinf Tryz.prog 139 = some { d := TD.struct [(3, 0), (3, 1), (72, 2)], size := 3, bytes := 40, zero := [PVal.dat (Dat.int IntKind.i64 (0)), PVal.dat (Dat.int IntKind.i64 (0)), PVal.nilS] } := by kernel_rfl
theorem so139 : sizesOf Tryz.prog [(3, 0), (3, 1), (72, 2)] = some [(0, 1), (1, 1), (2, 1)] := by kernel_rfl
theorem ag139 : aggSize Tryz.prog 139 = some (some 3) := by kernel_rfl
theorem sz139 : szOf Tryz.prog 139 = some 3 := by kernel_rfl
theorem ti140 : tinf Tryz.prog 140 = some { d := TD.struct [(3, 0), (3, 1), (72, 2)], size := 3, bytes := 40, zero := [PVal.dat (Dat.int IntKind.i64 (0)), PVal.dat (Dat.int IntKind.i64 (0)), PVal.nilS] } := by kernel_rfl
theorem so140 : sizesOf Tryz.prog [(3, 0), (3, 1), (72, 2)] = some [(0, 1), (1, 1), (2, 1)] := by kernel_rfl
theorem ag140 : aggSize Tryz.prog 140 = some (some 3) := by kernel_rfl
theorem sz140 : szOf Tryz.prog 140 = some 3 := by kernel_rfl
theorem ti141 : tinf Tryz.prog 141 = some { d := TD.other, size := 1, bytes := 0, zero := [PVal.top] } := by kernel_rfl
theorem ag141 : aggSize Tryz.prog 141 = some none := by kernel_rfl
theorem sz141 : szOf Tryz.prog 141 = some 1 := by kernel_rfl
theorem ti142 : tinf Tryz.prog 142 = some { d := TD.other, size := 1, bytes := 8, zero := [PVal.top] } := by kernel_rfl
theorem ag142 : aggSize Tryz.prog 142 = some none := by kernel_rfl
theorem sz142 : szOf Tryz.prog 142 = some 1 := by kernel_rfl
theorem ti143 : tinf Tryz.prog 143 = some { d := TD.other, size := 1, bytes := 8, zero := [PVal.top] } := by kernel_rfl
theorem ag143 : aggSize Tryz.prog 143 = some none := by kernel_rfl
theorem sz143 : szOf Tryz.prog 143 = some 1 := by kernel_rfl
theorem ti144 : tinf Tryz.prog 144 = some { d := TD.other, size := 1, bytes := 8, zero := [PVal.top] } := by kernel_rfl
theorem ag144 : aggSize Tryz.prog 144 = some none := by kernel_rfl
theorem sz144 : szOf Tryz.prog 144 = some 1 := by kernel_rfl
theorem ti145 : tinf Tryz.prog 145 = some { d := TD.other, size := 1, bytes := 8, zero := [PVal.top] } := by kernel_rfl
theorem ag145 : aggSize Tryz.prog 145 = some none := by kernel_rfl
theorem sz145 : szOf Tryz.prog 145 = some 1 := by kernel_rfl
theorem ti146 : tinf Tryz.prog 146 = some { d := TD.other, size := 1, bytes := 8, zero := [PVal.top] } := by kernel_rfl
theorem ag146 : aggSize Tryz.prog 146 = some none := by kernel_rfl
theorem sz146 : szOf Tryz.prog 146 = some 1 := by kernel_rfl
theorem ti147 : tinf Tryz.prog 147 = some { d := TD.other, size := 8, bytes := 32, zero := [PVal.dat (Dat.int IntKind.u32 (0)), PVal.dat (Dat.int IntKind.u32 (0)), PVal.dat (Dat.int IntKind.u32 (0)), PVal.dat (Dat.int IntKind.u32 (0)), PVal.dat (Dat.int IntKind.u32 (0)), PVal.dat (Dat.int IntKind.u32 (0)), PVal.dat (Dat.int IntKind.u32 (0)), PVal.dat (Dat.int IntKind.u32 (0))] } := by kernel_rfl
theorem ag147 : aggSize Tryz.prog 147 = some (some 8) := by kernel_rfl
theorem sz147 : szOf Tryz.prog 147 = some 8 := by kernel_rfl
theorem ti148 : tinf Tryz.prog 148 = some { d := TD.other, size := 4, bytes := 16, zero := [PVal.dat (Dat.int IntKind.u32 (0)), PVal.dat (Dat.int IntKind.u32 (0)), PVal.dat (Dat.int IntKind.u32 (0)), PVal.dat (Dat.int IntKind.u32 (0))] } := by kernel_rfl
theorem ag148 : aggSize Tryz.prog 148 = some (some 4) := by kernel_rfl
theorem sz148 : szOf Tryz.prog 148 = some 4 := by kernel_rfl
theorem ti149 : tinf Tryz.prog 149 = some { d := TD.other, size := 16, bytes := 64, zero := [PVal.dat (Dat.int IntKind.u32 (0)), PVal.dat (Dat.int IntKind.u32 (0)), PVal.dat (Dat.int IntKind.u32 (0)), PVal.dat (Dat.int IntKind.u32 (0)), PVal.dat (Dat.int IntKind.u32 (0)), PVal.dat (Dat.int IntKind.u32 (0)), PVal.dat (Dat.int IntKind.u32 (0)), PVal.dat (Dat.int IntKind.u32 (0)), PVal.dat (Dat.int IntKind.u32 (0)), PVal.dat (Dat.int IntKind.u32 (0)), PVal.dat (Dat.int IntKind.u32 (0)), PVal.dat (Dat.int IntKind.u32 (0)), PVal.dat (Dat.int IntKind.u32 (0)), PVal.dat (Dat.int IntKind.u32 (0)), PVal.dat (Dat.int IntKind.u32 (0)), PVal.dat (Dat.int IntKind.u32 (0))] } := by kernel_rfl
theorem ag149 : aggSize Tryz.prog 149 = some (some 16) := by kernel_rfl
theorem sz149 : szOf Tryz.prog 149 = some 16 := by kernel_rfl
theorem ti150 : tinf Tryz.prog 150 = some { d := TD.slice 198, size := 1, bytes := 24, zero := [PVal.nilS] } := by kernel_rfl
theorem ag150 : aggSize Tryz.prog 150 = some none := by kernel_rfl
theorem sz150 : szOf Tryz.prog 150 = some 1 := by kernel_rfl
theorem ti151 : tinf Tryz.prog 151 = some { d := TD.struct [(147, 0), (149, 8), (3, 24), (61, 25), (61, 26), (4, 27), (4, 28), (61, 29), (3, 30), (61, 31), (150, 32)], size := 33, bytes := 160, zero := [PVal.dat (Dat.int IntKind.u32 (0)), PVal.dat (Dat.int IntKind.u32 (0)), PVal.dat (Dat.int IntKind.u32 (0)), PVal.dat (Dat.int IntKind.u32 (0)), PVal.dat (Dat.int IntKind.u32 (0)), PVal.dat (Dat.int IntKind.u32 (0)), PVal.dat (Dat.int IntKind.u32 (0)), PVal.dat (Dat.int IntKind.u32 (0)), PVal.dat (Dat.int IntKind.u32 (0)), PVal.dat (Dat.int IntKind.u32 (0)), PVal.dat (Dat.int IntKind.u32 (0)), PVal.dat (Dat.int IntKind.u32 (0)), PVal.dat (Dat.int IntKind.u32 (0)), PVal.dat (Dat.int IntKind.u32 (0)), PVal.dat (Dat.int IntKind.u32 (0)), PVal.dat (Dat.int IntKind.u32 (0)), PVal.dat (Dat.int IntKind.u32 (0)), PVal.dat (Dat.int IntKind.u32 (0)), PVal.dat (Dat.int IntKind.u32 (0)), PVal.dat (Dat.int IntKind.u32 (0)), PVal.dat (Dat.int IntKind.u32 (0)), PVal.dat (Dat.int IntKind.u32 (0)), PVal.dat (Dat.int IntKind.u32 (0)), PVal.dat (Dat.int IntKind.u32 (0)), PVal.dat (Dat.int IntKind.i64 (0)), PVal.dat (Dat.int IntKind.u32 (0)), PVal.dat (Dat.int IntKind.u32 (0)), PVal.dat (Dat.bool false), PVal.dat (Dat.bool false), PVal.dat (Dat.int IntKind.u32 (0)), PVal.dat (Dat.int IntKind.i64 (0)), PVal.dat (Dat.int IntKind.u32 (0)), PVal.nilS] } := by kernel_rfl
theorem so151 : sizesOf Tryz.prog [(147, 0), (149, 8), (3, 24), (61, 25), (61, 26), (4, 27), (4, 28), (61, 29), (3, 30), (61, 31), (150, 32)] = some [(0, 8), (8, 16), (24, 1), (25, 1), (26, 1), (27, 1), (28, 1), (29, 1), (30, 1), (31, 1), (32, 1)] := by kernel_rfl
theorem ag151 : aggSize Tryz.prog 151 = some (some 33) := by kernel_rfl
theorem sz151 : szOf Tryz.prog 151 = some 33 := by kernel_rfl
theorem ti152 : tinf Tryz.prog 152 = some { d := TD.struct [(147, 0), (149, 8), (3, 24), (61, 25), (61, 26), (4, 27), (4, 28), (61, 29), (3, 30), (61, 31), (150, 32)], size := 33, bytes := 160, zero := [PVal.dat (Dat.int IntKind.u32 (0)), PVal.dat (Dat.int IntKind.u32 (0)), PVal.dat (Dat.int IntKind.u32 (0)), PVal.dat (Dat.int IntKind.u32 (0)), PVal.dat (Dat.int IntKind.u32 (0)), PVal.dat (Dat.int IntKind.u32 (0)), PVal.dat (Dat.int IntKind.u32 (0)), PVal.dat (Dat.int IntKind.u32 (0)), PVal.dat (Dat.int IntKind.u32 (0)), PVal.dat (Dat.int IntKind.u32 (0)), PVal.dat (Dat.int IntKind.u32 (0)), PVal.dat (Dat.int IntKind.u32 (0)), PVal.dat (Dat.int IntKind.u32 (0)), PVal.dat (Dat.int IntKind.u32 (0)), PVal.dat (Dat.int IntKind.u32 (0)), PVal.dat (Dat.int IntKind.u32 (0)), PVal.dat (Dat.int IntKind.u32 (0)), PVal.dat (Dat.int IntKind.u32 (0)), PVal.dat (Dat.int IntKind.u32 (0)), PVal.dat (Dat.int IntKind.u32 (0)), PVal.dat (Dat.int IntKind.u32 (0)), PVal.dat (Dat.int IntKind.u32 (0)), PVal.dat (Dat.int IntKind.u32 (0)), PVal.dat (Dat.int IntKind.u32 (0)), PVal.dat (Dat.int IntKind.i64 (0)), PVal.dat (Dat.int IntKind.u32 (0)), PVal.dat (Dat.int IntKind.u32 (0)), PVal.dat (Dat.bool false), PVal.dat (Dat.bool false), PVal.dat (Dat.int IntKind.u32 (0)), PVal.dat (Dat.int IntKind.i64 (0)), PVal.dat (Dat.int IntKind.u32 (0)), PVal.nilS] } := by kernel_rfl
theorem so152 : sizesOf Tryz.prog [(147, 0), (149, 8), (3, 24), (61, 25), (61, 26), (4, 27), (4, 28), (61, 29), (3, 30), (61, 31), (150, 32)] = some [(0, 8), (8, 16), (24, 1), (25, 1), (26, 1), (27, 1), (28, 1), (29, 1), (30, 1), (31, 1), (32, 1)] := by kernel_rfl
theorem ag152 : aggSize Tryz.prog 152 = some (some 33) := by kernel_rfl
theorem sz152 : szOf Tryz.prog 152 = some 33 := by kernel_rfl
theorem ti153 : tinf Tryz.prog 153 = some { d := TD.other, size := 1, bytes := 8, zero := [PVal.top] } := by kernel_rfl
theorem ag153 : aggSize Tryz.prog 153 = some none := by kernel_rfl
theorem sz153 : szOf Tryz.prog 153 = some 1 := by kernel_rfl
theorem ti154 : tinf Tryz.prog 154 = some { d := TD.other, size := 1, bytes := 8, zero := [PVal.top] } := by kernel_rfl
theorem ag154 : aggSize Tryz.prog 154 = some none := by kernel_rfl
theorem sz154 : szOf Tryz.prog 154 = some 1 := by kernel_rfl
theorem ti155 : tinf Tryz.prog 155 = some { d := TD.other, size := 1, bytes := 8, zero := [PVal.top] } := by kernel_rfl
theorem ag155 : aggSize Tryz.prog 155 = some none := by kernel_rfl
theorem sz155 : szOf Tryz.prog 155 = some 1 := by kernel_rfl
theorem ti156 : tinf Tryz.prog 156 = some { d := TD.other, size := 1, bytes := 8, zero := [PVal.top] } := by kernel_rfl
theorem ag156 : aggSize Tryz.prog 156 = some none := by kernel_rfl
theorem sz156 : szOf Tryz.prog 156 = some 1 := by kernel_rfl
theorem ti157 : tinf Tryz.prog 157 = some { d := TD.other, size := 1, bytes := 8, zero := [PVal.top] } := by kernel_rfl
theorem ag157 : aggSize Tryz.prog 157 = some none := by kernel_rfl
theorem sz157 : szOf Tryz.prog 157 = some 1 := by kernel_rfl
theorem ti158 : tinf Tryz.prog 158 = some { d := TD.other, size := 1, bytes := 8, zero := [PVal.top] } := by kernel_rfl
theorem ag158 : aggSize Tryz.prog 158 = some none := by kernel_rfl
theorem sz158 : szOf Tryz.prog 158 = some 1 := by kernel_rfl
theorem ti159 : tinf Tryz.prog 159 = some { d := TD.other, size := 1, bytes := 8, zero := [PVal.top] } := by kernel_rfl
theorem ag159 : aggSize Tryz.prog 159 = some none := by kernel_rfl
theorem sz159 : szOf Tryz.prog 159 = some 1 := by kernel_rfl
theorem ti160 : tinf Tryz.prog 160 = some { d := TD.other, size := 1, bytes := 8, zero := [PVal.top] } := by kernel_rfl
theorem ag160 : aggSize Tryz.prog 160 = some none := by kernel_rfl
theorem sz160 : szOf Tryz.prog 160 = some 1 := by kernel_rfl
theorem ti161 : tinf Tryz.prog 161 = some { d := TD.other, size := 1, bytes := 8, zero := [PVal.top] } := by kernel_rfl
theorem ag161 : aggSize Tryz.prog 161 = some none := by kernel_rfl
theorem sz161 : szOf Tryz.prog 161 = some 1 := by kernel_rfl
theorem ti162 : tinf Tryz.prog 162 = some { d := TD.other, size := 1, bytes := 8, zero := [PVal.top] } := by kernel_rfl
theorem ag162 : aggSize Tryz.prog 162 = some none := by kernel_rfl
theorem sz162 : szOf Tryz.prog 162 = some 1 := by kernel_rfl
theorem ti163 : tinf Tryz.prog 163 = some { d := TD.other, size := 1, bytes := 8, zero := [PVal.top] } := by kernel_rfl
theorem ag163 : aggSize Tryz.prog 163 = some none := by kernel_rfl
theorem sz163 : szOf Tryz.prog 163 = some 1 := by kernel_rfl
theorem ti164 : tinf Tryz.prog 164 = some { d := TD.other, size := 1, bytes := 8, zero := [PVal.top] } := by kernel_rfl
theorem ag164 : aggSize Tryz.prog 164 = some none := by kernel_rfl
theorem sz164 : szOf Tryz.prog 164 = some 1 := by kernel_rfl
theorem ti165 : tinf Tryz.prog 165 = some { d := TD.other, size := 1, bytes := 8, zero := [PVal.top] } := by kernel_rfl
theorem ag165 : aggSize Tryz.prog 165 = some none := by kernel_rfl
theorem sz165 : szOf Tryz.prog 165 = some 1 := by kernel_rfl
theorem ti166 : tinf Tryz.prog 166 = some { d := TD.other, size := 1, bytes := 8, zero := [PVal.top] } := by kernel_rfl
theorem ag166 : aggSize Tryz.prog 166 = some none := by kernel_rfl
theorem sz166 : szOf Tryz.prog 166 = some 1 := by kernel_rfl
theorem ti167 : tinf Tryz.prog 167 = some { d := TD.other, size := 1, bytes := 8, zero := [PVal.top] } := by kernel_rfl
theorem ag167 : aggSize Tryz.prog 167 = some none := by kernel_rfl
theorem sz167 : szOf Tryz.prog 167 = some 1 := by kernel_rfl
theorem ti168 : tinf Tryz.prog 168 = some { d := TD.other, size := 1, bytes := 0, zero := [PVal.top] } := by kernel_rfl
theorem ag168 : aggSize Tryz.prog 168 = some none := by kernel_rfl
theorem sz168 : szOf Tryz.prog 168 = some 1 := by kernel_rfl
theorem ti169 : tinf Tryz.prog 169 = some { d := TD.other, size := 1, bytes := 8, zero := [PVal.top] } := by kernel_rfl
theorem ag169 : aggSize Tryz.prog 169 = some none := by kernel_rfl
theorem sz169 : szOf Tryz.prog 169 = some 1 := by kernel_rfl
theorem ti170 : tinf Tryz.prog 170 = some { d := TD.other, size := 1, bytes := 8, zero := [PVal.top] } := by kernel_rfl
theorem ag170 : aggSize Tryz.prog 170 = some none := by kernel_rfl
theorem sz170 : szOf Tryz.prog 170 = some 1 := by kernel_rfl
theorem ti171 : tinf Tryz.prog 171 = some { d := TD.other, size := 1, bytes := 8, zero := [PVal.top] } := by kernel_rfl
theorem ag171 : aggSize Tryz.prog 171 = some none := by kernel_rfl
theorem sz171 : szOf Tryz.prog 171 = some 1 := by kernel_rfl
theorem ti172 : tinf Tryz.prog 172 = some { d := TD.other, size := 1, bytes := 8, zero := [PVal.top] } := by kernel_rfl
theorem ag172 : aggSize Tryz.prog 172 = some none := by kernel_rfl
theorem sz172 : szOf Tryz.prog 172 = some 1 := by kernel_rfl
theorem ti173 : tinf Tryz.prog 173 = some { d := TD.other, size := 1, bytes := 8, zero := [PVal.top] } := by kernel_rfl
theorem ag173 : aggSize Tryz.prog 173 = some none := by kernel_rfl
theorem sz173 : szOf Tryz.prog 173 = some 1 := by kernel_rfl
theorem ti174 : tinf Tryz.prog 174 = some { d := TD.other, size := 1, bytes := 8, zero := [PVal.top] } := by kernel_rfl
theorem ag174 : aggSize Tryz.prog 174 = some none := by kernel_rfl
theorem sz174 : szOf Tryz.prog 174 = some 1 := by kernel_rfl
theorem ti175 : tinf Tryz.prog 175 = some { d := TD.other, size := 1, bytes := 8, zero := [PVal.top] } := by kernel_rfl
theorem ag175 : aggSize Tryz.prog 175 = some none := by kernel_rfl
theorem sz175 : szOf Tryz.prog 175 = some 1 := by kernel_rfl
theorem ti176 : tinf Tryz.prog 176 = some { d := TD.struct [(82, 0), (67, 22), (3, 28), (3, 29)], size := 30, bytes := 488, zero := [PVal.dat (Dat.str { data := { toList := [] } }), PVal.dat (Dat.bool false), PVal.nilS, PVal.dat (Dat.int IntKind.i64 (0)), PVal.nilS, PVal.nilS, PVal.nilS, PVal.nilS, PVal.dat (Dat.int IntKind.i64 (0)), PVal.nilS, PVal.nilS, PVal.nilS, PVal.dat (Dat.int IntKind.i64 (0)), PVal.nilS, PVal.nilS, PVal.nilS, PVal.nilS, PVal.nilS, PVal.nilS, PVal.dat (Dat.int IntKind.i64 (0)), PVal.dat (Dat.int IntKind.i64 (0)), PVal.dat (Dat.int IntKind.i64 (0)), PVal.dat (Dat.str { data := { toList := [] } }), PVal.dat (Dat.str { data := { toList := [] } }), PVal.dat (Dat.bool false), PVal.dat (Dat.int IntKind.i64 (0)), PVal.dat (Dat.int IntKind.i64 (0)), PVal.dat (Dat.int IntKind.i64 (0)), PVal.dat (Dat.int IntKind.i64 (0)), PVal.dat (Dat.int IntKind.i64 (0))] } := by kernel_rfl
theorem so176 : sizesOf Tryz.prog [(82, 0), (67, 22), (3, 28), (3, 29)] = some [(0, 22), (22, 6), (28, 1), (29, 1)] := by kernel_rfl
theorem ag176 : aggSize Tryz.prog 176 = some (some 30) := by kernel_rfl
theorem sz176 : szOf Tryz.prog 176 = some 30 := by kernel_rfl
theorem ti177 : tinf Tryz.prog 177 = some { d := TD.struct [(82, 0), (67, 22), (3, 28), (3, 29)], size := 30, bytes := 488, zero := [PVal.dat (Dat.str { data := { toList := [] } }), PVal.dat (Dat.bool false), PVal.nilS, PVal.dat (Dat.int IntKind.i64 (0)), PVal.nilS, PVal.nilS, PVal.nilS, PVal.nilS, PVal.dat (Dat.int IntKind.i64 (0)), PVal.nilS, PVal.nilS, PVal.nilS, PVal.dat (Dat.int IntKind.i64 (0)), PVal.nilS, PVal.nilS, PVal.nilS, PVal.nilS, PVal.nilS, PVal.nilS, PVal.dat (Dat.int IntKind.i64 (0)), PVal.dat (Dat.int IntKind.i64 (0)), PVal.dat (Dat.int IntKind.i64 (0)), PVal.dat (Dat.str { data := { toList := [] } }), PVal.dat (Dat.str { data := { toList := [] } }), PVal.dat (Dat.bool false), PVal.dat (Dat.int IntKind.i64 (0)), PVal.dat (Dat.int IntKind.i64 (0)), PVal.dat (Dat.int IntKind.i64 (0)), PVal.dat (Dat.int IntKind.i64 (0)), PVal.dat (Dat.int IntKind.i64 (0))] } := by kernel_rfl
theorem so177 : sizesOf Tryz.prog [(82, 0), (67, 22), (3, 28), (3, 29)] = some [(0, 22), (22, 6), (28, 1), (29, 1)] := by kernel_rfl
theorem ag177 : aggSize Tryz.prog 177 = some (some 30) := by kernel_rfl
theorem sz177 : szOf Tryz.prog 177 = some 30 := by kernel_rfl
theorem ti178 : tinf Tryz.prog 178 = some { d := TD.other, size := 1, bytes := 8, zero := [PVal.top] } := by kernel_rfl
theorem ag178 : aggSize Tryz.prog 178 = some none := by kernel_rfl
theorem sz178 : szOf Tryz.prog 178 = some 1 := by kernel_rfl
theorem ti179 : tinf Tryz.prog 179 = some { d := TD.other, size := 1, bytes := 8, zero := [PVal.top] } := by kernel_rfl
theorem ag179 : aggSize Tryz.prog 179 = some none := by kernel_rfl
theorem sz179 : szOf Tryz.prog 179 = some 1 := by kernel_rfl
theorem ti180 : tinf Tryz.prog 180 = some { d := TD.other, size := 1, bytes := 8, zero := [PVal.top] } := by kernel_rfl
theorem ag180 : aggSize Tryz.prog 180 = some none := by kernel_rfl
theorem sz180 : szOf Tryz.prog 180 = some 1 := by kernel_rfl
theorem ti181 : tinf Tryz.prog 181 = some { d := TD.struct [(4, 0), (4, 1), (4, 2), (3, 3)], size := 4, bytes := 16, zero := [PVal.dat (Dat.bool false), PVal.dat (Dat.bool false), PVal.dat (Dat.bool false), PVal.dat (Dat.int IntKind.i64 (0))] } := by kernel_rfl
theorem so181 : sizesOf Tryz.prog [(4, 0), (4, 1), (4, 2), (3, 3)] = some [(0, 1), (1, 1), (2, 1), (3, 1)] := by kernel_rfl
theorem ag181 : aggSize Tryz.prog 181 = some (some 4) := by kernel_rfl
theorem sz181 : szOf Tryz.prog 181 = some 4 := by kernel_rfl
theorem eq181 : eqOk Tryz.prog 181 = some [SK.b, SK.b, SK.b, SK.i IntKind.i64] := by kernel_rfl
theorem ti182 : tinf Tryz.prog 182 = some { d := TD.struct [(4, 0), (4, 1), (4, 2), (3, 3)], size := 4, bytes := 16, zero := [PVal.dat (Dat.bool false), PVal.dat (Dat.bool false), PVal.dat (Dat.bool false), PVal.dat (Dat.int IntKind.i64 (0))] } := by kernel_rfl
theorem so182 : sizesOf Tryz.prog [(4, 0), (4, 1), (4, 2), (3, 3)] = some [(0, 1), (1, 1), (2, 1), (3, 1)] := by kernel_rfl
theorem ag182 : aggSize Tryz.prog 182 = some (some 4) := by kernel_rfl
theorem sz182 : szOf Tryz.prog 182 = some 4 := by kernel_rfl
theorem eq182 : eqOk Tryz.prog 182 = some [SK.b, SK.b, SK.b, SK.i IntKind.i64] := by kernel_rfl
theorem ti183 : tinf Tryz.prog 183 = some { d := TD.other, size := 1, bytes := 8, zero := [PVal.top] } := by kernel_rfl
theorem ag183 : aggSize Tryz.prog 183 = some none := by kernel_rfl
theorem sz183 : szOf Tryz.prog 183 = some 1 := by kernel_rfl
theorem ti184 : tinf Tryz.prog 184 = some { d := TD.struct [(3, 0), (3, 1), (3, 2), (72, 3)], size := 4, bytes := 48, zero := [PVal.dat (Dat.int IntKind.i64 (0)), PVal.dat (Dat.int IntKind.i64 (0)), PVal.dat (Dat.int IntKind.i64 (0)), PVal.nilS] } := by kernel_rfl
theorem so184 : sizesOf Tryz.prog [(3, 0), (3, 1), (3, 2), (72, 3)] = some [(0, 1), (1, 1), (2, 1), (3, 1)] := by kernel_rfl
theorem ag184 : aggSize Tryz.prog 184 = some (some 4) := by kernel_rfl
theorem sz184 : szOf Tryz.prog 184 = some 4 := by kernel_rfl
theorem ti185 : tinf Tryz.prog 185 = some { d := TD.struct [(3, 0), (3, 1), (3, 2), (72, 3)], size := 4, bytes := 48, zero := [PVal.dat (Dat.int IntKind.i64 (0)), PVal.dat (Dat.int IntKind.i64 (0)), PVal.dat (Dat.int IntKind.i64 (0)), PVal.nilS] } := by kernel_rfl
theorem so185 : sizesOf Tryz.prog [(3, 0), (3, 1), (3, 2), (72, 3)] = some [(0, 1), (1, 1), (2, 1), (3, 1)] := by kernel_rfl
theorem ag185 : aggSize Tryz.prog 185 = some (some 4) := by kernel_rfl
theorem sz185 : szOf Tryz.prog 185 = some 4 := by kernel_rfl
theorem ti186 : tinf Tryz.prog 186 = some { d := TD.other, size := 1, bytes := 8, zero := [PVal.top] } := by kernel_rfl
theorem ag186 : aggSize Tryz.prog 186 = some none := by kernel_rfl
theorem sz186 : szOf Tryz.prog 186 = some 1 := by kernel_rfl
theorem ti187 : tinf Tryz.prog 187 = some { d := TD.other, size := 1, bytes := 8, zero := [PVal.top] } := by kernel_rfl
theorem ag187 : aggSize Tryz.prog 187 = some none := by kernel_rfl
theorem sz187 : szOf Tryz.prog 187 = some 1 := by kernel_rfl
theorem ti188 : tinf Tryz.prog 188 = some { d := TD.other, size := 1, bytes := 8, zero := [PVal.top] } := by kernel_rfl
theorem ag188 : aggSize Tryz.prog 188 = some none := by kernel_rfl
theorem sz188 : szOf Tryz.prog 188 = some 1 := by kernel_rfl
theorem ti189 : tinf Tryz.prog 189 = some { d := TD.other, size := 1, bytes := 8, zero := [PVal.top] } := by kernel_rfl
theorem ag189 : aggSize Tryz.prog 189 = some none := by kernel_rfl
theorem sz189 : szOf Tryz.prog 189 = some 1 := by kernel_rfl
theorem ti190 : tinf Tryz.prog 190 = some { d := TD.other, size := 1, bytes := 8, zero := [PVal.top] } := by kernel_rfl
theorem ag190 : aggSize Tryz.prog 190 = some none := by kernel_rfl
theorem sz190 : szOf Tryz.prog 190 = some 1 := by kernel_rfl
theorem ti191 : tinf Tryz.prog 191 = some { d := TD.other, size := 1, bytes := 8, zero := [PVal.top] } := by kernel_rfl
theorem ag191 : aggSize Tryz.prog 191 = some none := by kernel_rfl
theorem sz191 : szOf Tryz.prog 191 = some 1 := by kernel_rfl
theorem ti192 : tinf Tryz.prog 192 = some { d := TD.other, size := 1, bytes := 8, zero := [PVal.top] } := by kernel_rfl
theorem ag192 : aggSize Tryz.prog 192 = some none := by kernel_rfl
theorem sz192 : szOf Tryz.prog 192 = some 1 := by kernel_rfl
theorem ti193 : tinf Tryz.prog 193 = some { d := TD.other, size := 1, bytes := 8, zero := [PVal.top] } := by kernel_rfl
theorem ag193 : aggSize Tryz.prog 193 = some none := by kernel_rfl
theorem sz193 : szOf Tryz.prog 193 = some 1 := by kernel_rfl
theorem ti194 : tinf Tryz.prog 194 = some { d := TD.other, size := 1, bytes := 8, zero := [PVal.top] } := by kernel_rfl
theorem ag194 : aggSize Tryz.prog 194 = some none := by kernel_rfl
theorem sz194 : szOf Tryz.prog 194 = some 1 := by kernel_rfl
theorem ti195 : tinf Tryz.prog 195 = some { d := TD.other, size := 1, bytes := 8, zero := [PVal.top] } := by kernel_rfl
theorem ag195 : aggSize Tryz.prog 195 = some none := by kernel_rfl
theorem sz195 : szOf Tryz.prog 195 = some 1 := by kernel_rfl
theorem ti196 : tinf Tryz.prog 196 = some { d := TD.other, size := 1, bytes := 8, zero := [PVal.top] } := by kernel_rfl
theorem ag196 : aggSize Tryz.prog 196 = some none := by kernel_rfl
theorem sz196 : szOf Tryz.prog 196 = some 1 := by kernel_rfl
theorem ti197 : tinf Tryz.prog 197 = some { d := TD.struct [(3, 0), (3, 1), (61, 2)], size := 3, bytes := 24, zero := [PVal.dat (Dat.int IntKind.i64 (0)), PVal.dat (Dat.int IntKind.i64 (0)), PVal.dat (Dat.int IntKind.u32 (0))] } := by kernel_rfl
theorem so197 : sizesOf Tryz.prog [(3, 0), (3, 1), (61, 2)] = some [(0, 1), (1, 1), (2, 1)] := by kernel_rfl
theorem ag197 : aggSize Tryz.prog 197 = some (some 3) := by kernel_rfl
theorem sz197 : szOf Tryz.prog 197 = some 3 := by kernel_rfl
theorem eq197 : eqOk Tryz.prog 197 = some [SK.i IntKind.i64, SK.i IntKind.i64, SK.i IntKind.u32] := by kernel_rfl
theorem ti198 : tinf Tryz.prog 198 = some { d := TD.struct [(3, 0), (3, 1), (61, 2)], size := 3, bytes := 24, zero := [PVal.dat (Dat.int IntKind.i64 (0)), PVal.dat (Dat.int IntKind.i64 (0)), PVal.dat (Dat.int IntKind.u32 (0))] } := by kernel_rfl
theorem so198 : sizesOf Tryz.prog [(3, 0), (3, 1), (61, 2)] = some [(0, 1), (1, 1), (2, 1)] := by kernel_rfl
theorem ag198 : aggSize Tryz.prog 198 = some (some 3) := by kernel_rfl
theorem sz198 : szOf Tryz.prog 198 = some 3 := by kernel_rfl
theorem eq198 : eqOk Tryz.prog 198 = some [SK.i IntKind.i64, SK.i IntKind.i64, SK.i IntKind.u32] := by kernel_rfl
theorem ti199 : tinf Tryz.prog 199 = some { d := TD.other, size := 1, bytes := 8, zero := [PVal.top] } := by kernel_rfl
theorem ag199 : aggSize Tryz.prog 199 = some none := by kernel_rfl
theorem sz199 : szOf Tryz.prog 199 = some 1 := by kernel_rfl
theorem ti200 : tinf Tryz.prog 200 = some { d := TD.other, size := 1, bytes := 8, zero := [PVal.top] } := by kernel_rfl
theorem ag200 : aggSize Tryz.prog 200 = some none := by kernel_rfl
theorem sz200 : szOf Tryz.prog 200 = some 1 := by kernel_rfl
theorem ti201 : tinf Tryz.prog 201 = some { d := TD.other, size := 1, bytes := 8, zero := [PVal.top] } := by kernel_rfl
theorem ag201 : aggSize Tryz.prog 201 = some none := by kernel_rfl
theorem sz201 : szOf Tryz.prog 201 = some 1 := by kernel_rfl
theorem ti202 : tinf Tryz.prog 202 = some { d := TD.other, size := 1, bytes := 8, zero := [PVal.top] } := by kernel_rfl
theorem ag202 : aggSize Tryz.prog 202 = some none := by kernel_rfl
theorem sz202 : szOf Tryz.prog 202 = some 1 := by kernel_rfl
theorem ti203 : tinf Tryz.prog 203 = some { d := TD.other, size := 1, bytes := 8, zero := [PVal.top] } := by kernel_rfl
theorem ag203 : aggSize Tryz.prog 203 = some none := by kernel_rfl
theorem sz203 : szOf Tryz.prog 203 = some 1 := by kernel_rfl
theorem ti204 : tinf Tryz.prog 204 = some { d := TD.other, size := 1, bytes := 8, zero := [PVal.top] } := by kernel_rfl
theorem ag204 : aggSize Tryz.prog 204 = some none := by kernel_rfl
theorem sz204 : szOf Tryz.prog 204 = some 1 := by kernel_rfl
theorem ti205 : tinf Tryz.prog 205 = some { d := TD.other, size := 1, bytes := 8, zero := [PVal.top] } := by kernel_rfl
theorem ag205 : aggSize Tryz.prog 205 = some none := by kernel_rfl
theorem sz205 : szOf Tryz.prog 205 = some 1 := by kernel_rfl
theorem ti206 : tinf Tryz.prog 206 = some { d := TD.other, size := 1, bytes := 8, zero := [PVal.top] } := by kernel_rfl
theorem ag206 : aggSize Tryz.prog 206 = some none := by kernel_rfl
theorem sz206 : szOf Tryz.prog 206 = some 1 := by kernel_rfl
theorem ti207 : tinf Tryz.prog 207 = some { d := TD.other, size := 1, bytes := 8, zero := [PVal.top] } := by kernel_rfl
theorem ag207 : aggSize Tryz.prog 207 = some none := by kernel_rfl
theorem sz207 : szOf Tryz.prog 207 = some 1 := by kernel_rfl
theorem ti208 : tinf Tryz.prog 208 = some { d := TD.other, size := 1, bytes := 8, zero := [PVal.top] } := by kernel_rfl
theorem ag208 : aggSize Tryz.prog 208 = some none := by kernel_rfl
theorem sz208 : szOf Tryz.prog 208 = some 1 := by kernel_rfl
theorem ti209 : tinf Tryz.prog 209 = some { d := TD.slice 207, size := 1, bytes := 24, zero := [PVal.nilS] } := by kernel_rfl
theorem ag209 : aggSize Tryz.prog 209 = some none := by kernel_rfl
theorem sz209 : szOf Tryz.prog 209 = some 1 := by kernel_rfl
theorem ti210 : tinf Tryz.prog 210 = some { d := TD.other, size := 1, bytes := 8, zero := [PVal.top] } := by kernel_rfl
theorem ag210 : aggSize Tryz.prog 210 = some none := by kernel_rfl
theorem sz210 : szOf Tryz.prog 210 = some 1 := by kernel_rfl
theorem ti211 : tinf Tryz.prog 211 = some { d := TD.other, size := 1, bytes := 8, zero := [PVal.top] } := by kernel_rfl
theorem ag211 : aggSize Tryz.prog 211 = some none := by kernel_rfl
theorem sz211 : szOf Tryz.prog 211 = some 1 := by kernel_rfl
theorem ti212 : tinf Tryz.prog 212 = some { d := TD.other, size := 1, bytes := 8, zero := [PVal.top] } := by kernel_rfl
theorem ag212 : aggSize Tryz.prog 212 = some none := by kernel_rfl
theorem sz212 : szOf Tryz.prog 212 = some 1 := by kernel_rfl
theorem ti213 : tinf Tryz.prog 213 = some { d := TD.other, size := 1, bytes := 8, zero := [PVal.top] } := by kernel_rfl
theorem ag213 : aggSize Tryz.prog 213 = some none := by kernel_rfl
theorem sz213 : szOf Tryz.prog 213 = some 1 := by kernel_rfl
theorem ti214 : tinf Tryz.prog 214 = some { d := TD.other, size := 1, bytes := 8, zero := [PVal.top] } := by kernel_rfl
theorem ag214 : aggSize Tryz.prog 214 = some none := by kernel_rfl
theorem sz214 : szOf Tryz.prog 214 = some 1 := by kernel_rfl
theorem ti215 : tinf Tryz.prog 215 = some { d := TD.slice 219, size := 1, bytes := 24, zero := [PVal.nilS] } := by kernel_rfl
theorem ag215 : aggSize Tryz.prog 215 = some none := by kernel_rfl
theorem sz215 : szOf Tryz.prog 215 = some 1 := by kernel_rfl
theorem ti216 : tinf Tryz.prog 216 = some { d := TD.struct [(3, 0), (9, 1), (3, 2), (3, 3), (3, 4), (215, 5)], size := 6, bytes := 72, zero := [PVal.dat (Dat.int IntKind.i64 (0)), PVal.dat (Dat.str { data := { toList := [] } }), PVal.dat (Dat.int IntKind.i64 (0)), PVal.dat (Dat.int IntKind.i64 (0)), PVal.dat (Dat.int IntKind.i64 (0)), PVal.nilS] } := by kernel_rfl
theorem so216 : sizesOf Tryz.prog [(3, 0), (9, 1), (3, 2), (3, 3), (3, 4), (215, 5)] = some [(0, 1), (1, 1), (2, 1), (3, 1), (4, 1), (5, 1)] := by kernel_rfl
theorem ag216 : aggSize Tryz.prog 216 = some (some 6) := by kernel_rfl
theorem sz216 : szOf Tryz.prog 216 = some 6 := by kernel_rfl
theorem ti217 : tinf Tryz.prog 217 = some { d := TD.struct [(3, 0), (9, 1), (3, 2), (3, 3), (3, 4), (215, 5)], size := 6, bytes := 72, zero := [PVal.dat (Dat.int IntKind.i64 (0)), PVal.dat (Dat.str { data := { toList := [] } }), PVal.dat (Dat.int IntKind.i64 (0)), PVal.dat (Dat.int IntKind.i64 (0)), PVal.dat (Dat.int IntKind.i64 (0)), PVal.nilS] } := by kernel_rfl
theorem so217 : sizesOf Tryz.prog [(3, 0), (9, 1), (3, 2), (3, 3), (3, 4), (215, 5)] = some [(0, 1), (1, 1), (2, 1), (3, 1), (4, 1), (5, 1)] := by kernel_rfl
theorem ag217 : aggSize Tryz.prog 217 = some (some 6) := by kernel_rfl
theorem sz217 : szOf Tryz.prog 217 = some 6 := by kernel_rfl
theorem ti218 : tinf Tryz.prog 218 = some { d := TD.struct [(9, 0), (3, 1), (3, 2)], size := 3, bytes := 32, zero := [PVal.dat (Dat.str { data := { toList := [] } }), PVal.dat (Dat.int IntKind.i64 (0)), PVal.dat (Dat.int IntKind.i64 (0))] } := by kernel_rfl
theorem so218 : sizesOf Tryz.prog [(9, 0), (3, 1), (3, 2)] = some [(0, 1), (1, 1), (2, 1)] := by kernel_rfl
theorem ag218 : aggSize Tryz.prog 218 = some (some 3) := by kernel_rfl
theorem sz218 : szOf Tryz.prog 218 = some 3 := by kernel_rfl
theorem eq218 : eqOk Tryz.prog 218 = some [SK.s, SK.i IntKind.i64, SK.i IntKind.i64] := by kernel_rfl
theorem ti219 : tinf Tryz.prog 219 = some { d := TD.struct [(9, 0), (3, 1), (3, 2)], size := 3, bytes := 32, zero := [PVal.dat (Dat.str { data := { toList := [] } }), PVal.dat (Dat.int IntKind.i64 (0)), PVal.dat (Dat.int IntKind.i64 (0))] } := by kernel_rfl
theorem so219 : sizesOf Tryz.prog [(9, 0), (3, 1), (3, 2)] = some [(0, 1), (1, 1), (2, 1)] := by kernel_rfl
theorem ag219 : aggSize Tryz.prog 219 = some (some 3) := by kernel_rfl
theorem sz219 : szOf Tryz.prog 219 = some 3 := by kernel_rfl
theorem eq219 : eqOk Tryz.prog 219 = some [SK.s, SK.i IntKind.i64, SK.i IntKind.i64] := by kernel_rfl
theorem ti220 : tinf Tryz.prog 220 = some { d := TD.other, size := 1, bytes := 8, zero := [PVal.top] } := by kernel_rfl
theorem ag220 : aggSize Tryz.prog 220 = some none := by kernel_rfl
theorem sz220 : szOf Tryz.prog 220 = some 1 := by kernel_rfl
theorem ti221 : tinf Tryz.prog 221 = some { d := TD.other, size := 1, bytes := 8, zero := [PVal.top] } := by kernel_rfl
theorem ag221 : aggSize Tryz.prog 221 = some none := by kernel_rfl
theorem sz221 : szOf Tryz.prog 221 = some 1 := by kernel_rfl
theorem ti222 : tinf Tryz.prog 222 = some { d := TD.other, size := 1, bytes := 8, zero := [PVal.top] } := by kernel_rfl
theorem ag222 : aggSize Tryz.prog 222 = some none := by kernel_rfl
theorem sz222 : szOf Tryz.prog 222 = some 1 := by kernel_rfl
theorem ti223 : tinf Tryz.prog 223 = some { d := TD.other, size := 1, bytes := 8, zero := [PVal.top] } := by kernel_rfl
theorem ag223 : aggSize Tryz.prog 223 = some none := by kernel_rfl
theorem sz223 : szOf Tryz.prog 223 = some 1 := by kernel_rfl
theorem ti224 : tinf Tryz.prog 224 = some { d := TD.other, size := 1, bytes := 8, zero := [PVal.top] } := by kernel_rfl
theorem ag224 : aggSize Tryz.prog 224 = some none := by kernel_rfl
theorem sz224 : szOf Tryz.prog 224 = some 1 := by kernel_rfl
theorem ti225 : tinf Tryz.prog 225 = some { d := TD.other, size := 1, bytes := 8, zero := [PVal.top] } := by kernel_rfl
theorem ag225 : aggSize Tryz.prog 225 = some none := by kernel_rfl
theorem sz225 : szOf Tryz.prog 225 = some 1 := by kernel_rfl
theorem ti226 : tinf Tryz.prog 226 = some { d := TD.other, size := 1, bytes := 8, zero := [PVal.top] } := by kernel_rfl
theorem ag226 : aggSize Tryz.prog 226 = some none := by kernel_rfl
theorem sz226 : szOf Tryz.prog 226 = some 1 := by kernel_rfl
theorem ti227 : tinf Tryz.prog 227 = some { d := TD.other, size := 1, bytes := 8, zero := [PVal.top] } := by kernel_rfl
theorem ag227 : aggSize Tryz.prog 227 = some none := by kernel_rfl
theorem sz227 : szOf Tryz.prog 227 = some 1 := by kernel_rfl
theorem ti228 : tinf Tryz.prog 228 = some { d := TD.other, size := 1, bytes := 8, zero := [PVal.top] } := by kernel_rfl
theorem ag228 : aggSize Tryz.prog 228 = some none := by kernel_rfl
theorem sz228 : szOf Tryz.prog 228 = some 1 := by kernel_rfl
theorem ti229 : tinf Tryz.prog 229 = some { d := TD.other, size := 1, bytes := 8, zero := [PVal.top] } := by kernel_rfl
theorem ag229 : aggSize Tryz.prog 229 = some none := by kernel_rfl
theorem sz229 : szOf Tryz.prog 229 = some 1 := by kernel_rfl
theorem ti230 : tinf Tryz.prog 230 = some { d := TD.other, size := 1, bytes := 8, zero := [PVal.top] } := by kernel_rfl
theorem ag230 : aggSize Tryz.prog 230 = some none := by kernel_rfl
theorem sz230 : szOf Tryz.prog 230 = some 1 := by kernel_rfl
theorem ti231 : tinf Tryz.prog 231 = some { d := TD.other, size := 1, bytes := 8, zero := [PVal.top] } := by kernel_rfl
theorem ag231 : aggSize Tryz.prog 231 = some none := by kernel_rfl
theorem sz231 : szOf Tryz.prog 231 = some 1 := by kernel_rfl
theorem ti232 : tinf Tryz.prog 232 = some { d := TD.other, size := 1, bytes := 8, zero := [PVal.top] } := by kernel_rfl
theorem ag232 : aggSize Tryz.prog 232 = some none := by kernel_rfl
theorem sz232 : szOf Tryz.prog 232 = some 1 := by kernel_rfl
theorem ti233 : tinf Tryz.prog 233 = some { d := TD.other, size := 1, bytes := 8, zero := [PVal.top] } := by kernel_rfl
theorem ag233 : aggSize Tryz.prog 233 = some none := by kernel_rfl
theorem sz233 : szOf Tryz.prog 233 = some 1 := by kernel_rfl
theorem ti234 : tinf Tryz.prog 234 = some { d := TD.struct [(3, 0), (3, 1), (3, 2)], size := 3, bytes := 24, zero := [PVal.dat (Dat.int IntKind.i64 (0)), PVal.dat (Dat.int IntKind.i64 (0)), PVal.dat (Dat.int IntKind.i64 (0))] } := by kernel_rfl
theorem so234 : sizesOf Tryz.prog [(3, 0), (3, 1), (3, 2)] = some [(0, 1), (1, 1), (2, 1)] := by kernel_rfl
theorem ag234 : aggSize Tryz.prog 234 = some (some 3) := by kernel_rfl
theorem sz234 : szOf Tryz.prog 234 = some 3 := by kernel_rfl
theorem eq234 : eqOk Tryz.prog 234 = some [SK.i IntKind.i64, SK.i IntKind.i64, SK.i IntKind.i64] := by kernel_rfl
theorem ti235 : tinf Tryz.prog 235 = some { d := TD.struct [(3, 0), (3, 1), (3, 2)], size := 3, bytes := 24, zero := [PVal.dat (Dat.int IntKind.i64 (0)), PVal.dat (Dat.int IntKind.i64 (0)), PVal.dat (Dat.int IntKind.i64 (0))] } := by kernel_rfl
theorem so235 : sizesOf Tryz.prog [(3, 0), (3, 1), (3, 2)] = some [(0, 1), (1, 1), (2, 1)] := by kernel_rfl
theorem ag235 : aggSize Tryz.prog 235 = some (some 3) := by kernel_rfl
theorem sz235 : szOf Tryz.prog 235 = some 3 := by kernel_rfl
theorem eq235 : eqOk Tryz.prog 235 = some [SK.i IntKind.i64, SK.i IntKind.i64, SK.i IntKind.i64] := by kernel_rfl
theorem ti236 : tinf Tryz.prog 236 = some { d := TD.other, size := 1, bytes := 8, zero := [PVal.top] } := by kernel_rfl
theorem ag236 : aggSize Tryz.prog 236 = some none := by kernel_rfl
theorem sz236 : szOf Tryz.prog 236 = some 1 := by kernel_rfl
theorem ti237 : tinf Tryz.prog 237 = some { d := TD.struct [(3, 0), (3, 1), (3, 2), (3, 3)], size := 4, bytes := 32, zero := [PVal.dat (Dat.int IntKind.i64 (0)), PVal.dat (Dat.int IntKind.i64 (0)), PVal.dat (Dat.int IntKind.i64 (0)), PVal.dat (Dat.int IntKind.i64 (0))] } := by kernel_rfl
theorem so237 : sizesOf Tryz.prog [(3, 0), (3, 1), (3, 2), (3, 3)] = some [(0, 1), (1, 1), (2, 1), (3, 1)] := by kernel_rfl
theorem ag237 : aggSize Tryz.prog 237 = some (some 4) := by kernel_rfl
theorem sz237 : szOf Tryz.prog 237 = some 4 := by kernel_rfl
theorem eq237 : eqOk Tryz.prog 237 = some [SK.i IntKind.i64, SK.i IntKind.i64, SK.i IntKind.i64, SK.i IntKind.i64] := by kernel_rfl
theorem ti238 : tinf Tryz.prog 238 = some { d := TD.struct [(3, 0), (3, 1), (3, 2), (3, 3)], size := 4, bytes := 32, zero := [PVal.dat (Dat.int IntKind.i64 (0)), PVal.dat (Dat.int IntKind.i64 (0)), PVal.dat (Dat.int IntKind.i64 (0)), PVal.dat (Dat.int IntKind.i64 (0))] } := by kernel_rfl
theorem so238 : sizesOf Tryz.prog [(3, 0), (3, 1), (3, 2), (3, 3)] = some [(0, 1), (1, 1), (2, 1), (3, 1)] := by kernel_rfl
theorem ag238 : aggSize Tryz.prog 238 = some (some 4) := by kernel_rfl
theorem sz238 : szOf Tryz.prog 238 = some 4 := by kernel_rfl
theorem eq238 : eqOk Tryz.prog 238 = some [SK.i IntKind.i64, SK.i IntKind.i64, SK.i IntKind.i64, SK.i IntKind.i64] := by kernel_rfl
theorem ti239 : tinf Tryz.prog 239 = some { d := TD.other, size := 1, bytes := 8, zero := [PVal.top] } := by kernel_rfl
theorem ag239 : aggSize Tryz.prog 239 = some none := by kernel_rfl
theorem sz239 : szOf Tryz.prog 239 = some 1 := by kernel_rfl
theorem ti240 : tinf Tryz.prog 240 = some { d := TD.other, size := 1, bytes := 8, zero := [PVal.top] } := by kernel_rfl
theorem ag240 : aggSize Tryz.prog 240 = some none := by kernel_rfl
theorem sz240 : szOf Tryz.prog 240 = some 1 := by kernel_rfl
theorem ti241 : tinf Tryz.prog 241 = some { d := TD.struct [(9, 0), (3, 1), (3, 2)], size := 3, bytes := 32, zero := [PVal.dat (Dat.str { data := { toList := [] } }), PVal.dat (Dat.int IntKind.i64 (0)), PVal.dat (Dat.int IntKind.i64 (0))] } := by kernel_rfl
theorem so241 : sizesOf Tryz.prog [(9, 0), (3, 1), (3, 2)] = some [(0, 1), (1, 1), (2, 1)] := by kernel_rfl
theorem ag241 : aggSize Tryz.prog 241 = some (some 3) := by kernel_rfl
theorem sz241 : szOf Tryz.prog 241 = some 3 := by kernel_rfl
theorem eq241 : eqOk Tryz.prog 241 = some [SK.s, SK.i IntKind.i64, SK.i IntKind.i64] := by kernel_rfl
theorem ti242 : tinf Tryz.prog 242 = some { d := TD.struct [(9, 0), (3, 1), (3, 2)], size := 3, bytes := 32, zero := [PVal.dat (Dat.str { data := { toList := [] } }), PVal.dat (Dat.int IntKind.i64 (0)), PVal.dat (Dat.int IntKind.i64 (0))] } := by kernel_rfl
theorem so242 : sizesOf Tryz.prog [(9, 0), (3, 1), (3, 2)] = some [(0, 1), (1, 1), (2, 1)] := by kernel_rfl
theorem ag242 : aggSize Tryz.prog 242 = some (some 3) := by kernel_rfl
theorem sz242 : szOf Tryz.prog 242 = some 3 := by kernel_rfl
theorem eq242 : eqOk Tryz.prog 242 = some [SK.s, SK.i IntKind.i64, SK.i IntKind.i64] := by kernel_rfl
theorem ti243 : tinf Tryz.prog 243 = some { d := TD.other, size := 1, bytes := 8, zero := [PVal.top] } := by kernel_rfl
theorem ag243 : aggSize Tryz.prog 243 = some none := by kernel_rfl
theorem sz243 : szOf Tryz.prog 243 = some 1 := by kernel_rfl
theorem ti244 : tinf Tryz.prog 244 = some { d := TD.struct [(3, 0), (3, 1), (3, 2), (3, 3), (3, 4)], size := 5, bytes := 40, zero := [PVal.dat (Dat.int IntKind.i64 (0)), PVal.dat (Dat.int IntKind.i64 (0)), PVal.dat (Dat.int IntKind.i64 (0)), PVal.dat (Dat.int IntKind.i64 (0)), PVal.dat (Dat.int IntKind.i64 (0))] } := by kernel_rfl
theorem so244 : sizesOf Tryz.prog [(3, 0), (3, 1), (3, 2), (3, 3), (3, 4)] = some [(0, 1), (1, 1), (2, 1), (3, 1), (4, 1)] := by kernel_rfl
theorem ag244 : aggSize Tryz.prog 244 = some (some 5) := by kernel_rfl
theorem sz244 : szOf Tryz.prog 244 = some 5 := by kernel_rfl
theorem eq244 : eqOk Tryz.prog 244 = some [SK.i IntKind.i64, SK.i IntKind.i64, SK.i IntKind.i64, SK.i IntKind.i64, SK.i IntKind.i64] := by kernel_rfl
theorem ti245 : tinf Tryz.prog 245 = some { d := TD.struct [(3, 0), (3, 1), (3, 2), (3, 3), (3, 4)], size := 5, bytes := 40, zero := [PVal.dat (Dat.int IntKind.i64 (0)), PVal.dat (Dat.int IntKind.i64 (0)), PVal.dat (Dat.int IntKind.i64 (0)), PVal.dat (Dat.int IntKind.i64 (0)), PVal.dat (Dat.int IntKind.i64 (0))] } := by kernel_rfl
theorem so245 : sizesOf Tryz.prog [(3, 0), (3, 1), (3, 2), (3, 3), (3, 4)] = some [(0, 1), (1, 1), (2, 1), (3, 1), (4, 1)] := by kernel_rfl
theorem ag245 : aggSize Tryz.prog 245 = some (some 5) := by kernel_rfl
theorem sz245 : szOf Tryz.prog 245 = some 5 := by kernel_rfl
theorem eq245 : eqOk Tryz.prog 245 = some [SK.i IntKind.i64, SK.i IntKind.i64, SK.i IntKind.i64, SK.i IntKind.i64, SK.i IntKind.i64] := by kernel_rfl
theorem ti246 : tinf Tryz.prog 246 = some { d := TD.other, size := 1, bytes := 8, zero := [PVal.top] } := by kernel_rfl
theorem ag246 : aggSize Tryz.prog 246 = some none := by kernel_rfl
theorem sz246 : szOf Tryz.prog 246 = some 1 := by kernel_rfl
theorem ti247 : tinf Tryz.prog 247 = some { d := TD.other, size := 1, bytes := 8, zero := [PVal.top] } := by kernel_rfl
theorem ag247 : aggSize Tryz.prog 247 = some none := by kernel_rfl
theorem sz247 : szOf Tryz.prog 247 = some 1 := by kernel_rfl
theorem ti248 : tinf Tryz.prog 248 = some { d := TD.other, size := 1, bytes := 8, zero := [PVal.top] } := by kernel_rfl
theorem ag248 : aggSize Tryz.prog 248 = some none := by kernel_rfl
theorem sz248 : szOf Tryz.prog 248 = some 1 := by kernel_rfl
theorem ti249 : tinf Tryz.prog 249 = some { d := TD.other, size := 1, bytes := 8, zero := [PVal.top] } := by kernel_rfl
theorem ag249 : aggSize Tryz.prog 249 = some none := by kernel_rfl
theorem sz249 : szOf Tryz.prog 249 = some 1 := by kernel_rfl
theorem ti250 : tinf Tryz.prog 250 = some { d := TD.other, size := 1, bytes := 8, zero := [PVal.top] } := by kernel_rfl
theorem ag250 : aggSize Tryz.prog 250 = some none := by kernel_rfl
theorem sz250 : szOf Tryz.prog 250 = some 1 := by kernel_rfl
theorem ti251 : tinf Tryz.prog 251 = some { d := TD.other, size := 1, bytes := 8, zero := [PVal.top] } := by kernel_rfl
theorem ag251 : aggSize Tryz.prog 251 = some none := by kernel_rfl
theorem sz251 : szOf Tryz.prog 251 = some 1 := by kernel_rfl
theorem ti252 : tinf Tryz.prog 252 = some { d := TD.other, size := 1, bytes := 8, zero := [PVal.top] } := by kernel_rfl
theorem ag252 : aggSize Tryz.prog 252 = some none := by kernel_rfl
theorem sz252 : szOf Tryz.prog 252 = some 1 := by kernel_rfl
theorem ti253 : tinf Tryz.prog 253 = some { d := TD.other, size := 1, bytes := 8, zero := [PVal.top] } := by kernel_rfl
theorem ag253 : aggSize Tryz.prog 253 = some none := by kernel_rfl
theorem sz253 : szOf Tryz.prog 253 = some 1 := by kernel_rfl
theorem ti254 : tinf Tryz.prog 254 = some { d := TD.other, size := 1, bytes := 8, zero := [PVal.top] } := by kernel_rfl
theorem ag254 : aggSize Tryz.prog 254 = some none := by kernel_rfl
theorem sz254 : szOf Tryz.prog 254 = some 1 := by kernel_rfl
theorem ti255 : tinf Tryz.prog 255 = some { d := TD.other, size := 1, bytes := 8, zero := [PVal.top] } := by kernel_rfl
theorem ag255 : aggSize Tryz.prog 255 = some none := by kernel_rfl
theorem sz255 : szOf Tryz.prog 255 = some 1 := by kernel_rfl
theorem ti256 : tinf Tryz.prog 256 = some { d := TD.other, size := 1, bytes := 8, zero := [PVal.top] } := by kernel_rfl
theorem ag256 : aggSize Tryz.prog 256 = some none := by kernel_rfl
theorem sz256 : szOf Tryz.prog 256 = some 1 := by kernel_rfl
theorem ti257 : tinf Tryz.prog 257 = some { d := TD.int IntKind.u64, size := 1, bytes := 8, zero := [PVal.dat (Dat.int IntKind.u64 (0))] } := by kernel_rfl
theorem ag257 : aggSize Tryz.prog 257 = some none := by kernel_rfl
theorem sz257 : szOf Tryz.prog 257 = some 1 := by kernel_rfl
theorem ti258 : tinf Tryz.prog 258 = some { d := TD.other, size := 1, bytes := 8, zero := [PVal.top] } := by kernel_rfl
theorem ag258 : aggSize Tryz.prog 258 = some none := by kernel_rfl
theorem sz258 : szOf Tryz.prog 258 = some 1 := by kernel_rfl
theorem ti259 : tinf Tryz.prog 259 = some { d := TD.other, size := 1, bytes := 8, zero := [PVal.top] } := by kernel_rfl
theorem ag259 : aggSize Tryz.prog 259 = some none := by kernel_rfl
theorem sz259 : szOf Tryz.prog 259 = some 1 := by kernel_rfl
theorem ti260 : tinf Tryz.prog 260 = some { d := TD.other, size := 1, bytes := 8, zero := [PVal.top] } := by kernel_rfl
theorem ag260 : aggSize Tryz.prog 260 = some none := by kernel_rfl
theorem sz260 : szOf Tryz.prog 260 = some 1 := by kernel_rfl
theorem ti261 : tinf Tryz.prog 261 = some { d := TD.other, size := 1, bytes := 8, zero := [PVal.top] } := by kernel_rfl
theorem ag261 : aggSize Tryz.prog 261 = some none := by kernel_rfl
theorem sz261 : szOf Tryz.prog 261 = some 1 := by kernel_rfl
theorem ti262 : tinf Tryz.prog 262 = some { d := TD.other, size := 1, bytes := 8, zero := [PVal.top] } := by kernel_rfl
theorem ag262 : aggSize Tryz.prog 262 = some none := by kernel_rfl
theorem sz262 : szOf Tryz.prog 262 = some 1 := by kernel_rfl
theorem ti263 : tinf Tryz.prog 263 = some { d := TD.other, size := 1, bytes := 8, zero := [PVal.top] } := by kernel_rfl
theorem ag263 : aggSize Tryz.prog 263 = some none := by kernel_rfl
theorem sz263 : szOf Tryz.prog 263 = some 1 := by kernel_rfl
theorem ti264 : tinf Tryz.prog 264 = some { d := TD.other, size := 1, bytes := 8, zero := [PVal.top] } := by kernel_rfl
theorem ag264 : aggSize Tryz.prog 264 = some none := by kernel_rfl
theorem sz264 : szOf Tryz.prog 264 = some 1 := by kernel_rfl
theorem ti265 : tinf Tryz.prog 265 = some { d := TD.other, size := 1, bytes := 8, zero := [PVal.top] } := by kernel_rfl
theorem ag265 : aggSize Tryz.prog 265 = some none := by kernel_rfl
theorem sz265 : szOf Tryz.prog 265 = some 1 := by kernel_rfl
theorem ti266 : tinf Tryz.prog 266 = some { d := TD.other, size := 1, bytes := 8, zero := [PVal.top] } := by kernel_rfl
theorem ag266 : aggSize Tryz.prog 266 = some none := by kernel_rfl
theorem sz266 : szOf Tryz.prog 266 = some 1 := by kernel_rfl
theorem ti267 : tinf Tryz.prog 267 = some { d := TD.other, size := 1, bytes := 8, zero := [PVal.top] } := by kernel_rfl
theorem ag267 : aggSize Tryz.prog 267 = some none := by kernel_rfl
theorem sz267 : szOf Tryz.prog 267 = some 1 := by kernel_rfl
theorem ti268 : tinf Tryz.prog 268 = some { d := TD.other, size := 1, bytes := 8, zero := [PVal.top] } := by kernel_rfl
theorem ag268 : aggSize Tryz.prog 268 = some none := by kernel_rfl
theorem sz268 : szOf Tryz.prog 268 = some 1 := by kernel_rfl
theorem ti269 : tinf Tryz.prog 269 = some { d := TD.other, size := 1, bytes := 8, zero := [PVal.top] } := by kernel_rfl
theorem ag269 : aggSize Tryz.prog 269 = some none := by kernel_rfl
theorem sz269 : szOf Tryz.prog 269 = some 1 := by kernel_rfl
theorem ti270 : tinf Tryz.prog 270 = some { d := TD.other, size := 1, bytes := 8, zero := [PVal.top] } := by kernel_rfl
theorem ag270 : aggSize Tryz.prog 270 = some none := by kernel_rfl
theorem sz270 : szOf Tryz.prog 270 = some 1 := by kernel_rfl
theorem ti271 : tinf Tryz.prog 271 = some { d := TD.other, size := 1, bytes := 8, zero := [PVal.top] } := by kernel_rfl
theorem ag271 : aggSize Tryz.prog 271 = some none := by kernel_rfl
theorem sz271 : szOf Tryz.prog 271 = some 1 := by kernel_rfl
theorem ti272 : tinf Tryz.prog 272 = some { d := TD.struct [(17, 0), (17, 1), (17, 2), (9, 3)], size := 4, bytes := 40, zero := [PVal.top, PVal.top, PVal.top, PVal.dat (Dat.str { data := { toList := [] } })] } := by kernel_rfl
theorem so272 : sizesOf Tryz.prog [(17, 0), (17, 1), (17, 2), (9, 3)] = some [(0, 1), (1, 1), (2, 1), (3, 1)] := by kernel_rfl
theorem ag272 : aggSize Tryz.prog 272 = some (some 4) := by kernel_rfl
theorem sz272 : szOf Tryz.prog 272 = some 4 := by kernel_rfl
theorem ti273 : tinf Tryz.prog 273 = some { d := TD.struct [(17, 0), (17, 1), (17, 2), (9, 3)], size := 4, bytes := 40, zero := [PVal.top, PVal.top, PVal.top, PVal.dat (Dat.str { data := { toList := [] } })] } := by kernel_rfl
theorem so273 : sizesOf Tryz.prog [(17, 0), (17, 1), (17, 2), (9, 3)] = some [(0, 1), (1, 1), (2, 1), (3, 1)] := by kernel_rfl
theorem ag273 : aggSize Tryz.prog 273 = some (some 4) := by kernel_rfl
theorem sz273 : szOf Tryz.prog 273 = some 4 := by kernel_rfl
theorem ag274 : aggSize Tryz.prog 274 = some (some 0) := by kernel_rfl
theorem sz274 : szOf Tryz.prog 274 = some 0 := by kernel_rfl
theorem ag275 : aggSize Tryz.prog 275 = some (some 0) := by kernel_rfl
theorem sz275 : szOf Tryz.prog 275 = some 0 := by kernel_rfl
theorem ag276 : aggSize Tryz.prog 276 = some (some 0) := by kernel_rfl
theorem sz276 : szOf Tryz.prog 276 = some 0 := by kernel_rfl
theorem ti277 : tinf Tryz.prog 277 = some { d := TD.other, size := 1, bytes := 8, zero := [PVal.top] } := by kernel_rfl
theorem ag277 : aggSize Tryz.prog 277 = some none := by kernel_rfl
theorem sz277 : szOf Tryz.prog 277 = some 1 := by kernel_rfl
theorem ti278 : tinf Tryz.prog 278 = some { d := TD.int IntKind.u8, size := 1, bytes := 1, zero := [PVal.dat (Dat.int IntKind.u8 (0))] } := by kernel_rfl
theorem ag278 : aggSize Tryz.prog 278 = some none := by kernel_rfl
theorem sz278 : szOf Tryz.prog 278 = some 1 := by kernel_rfl
theorem ti279 : tinf Tryz.prog 279 = some { d := TD.int IntKind.u8, size := 1, bytes := 1, zero := [PVal.dat (Dat.int IntKind.u8 (0))] } := by kernel_rfl
theorem ag279 : aggSize Tryz.prog 279 = some none := by kernel_rfl
theorem sz279 : szOf Tryz.prog 279 = some 1 := by kernel_rfl
theorem ti280 : tinf Tryz.prog 280 = some { d := TD.other, size := 1, bytes := 8, zero := [PVal.top] } := by kernel_rfl
theorem ag280 : aggSize Tryz.prog 280 = some none := by kernel_rfl
theorem sz280 : szOf Tryz.prog 280 = some 1 := by kernel_rfl
theorem ti281 : tinf Tryz.prog 281 = some { d := TD.other, size := 1, bytes := 8, zero := [PVal.top] } := by kernel_rfl
theorem ag281 : aggSize Tryz.prog 281 = some none := by kernel_rfl
theorem sz281 : szOf Tryz.prog 281 = some 1 := by kernel_rfl
theorem ti282 : tinf Tryz.prog 282 = some { d := TD.int IntKind.i32, size := 1, bytes := 4, zero := [PVal.dat (Dat.int IntKind.i32 (0))] } := by kernel_rfl
theorem ag282 : aggSize Tryz.prog 282 = some none := by kernel_rfl
theorem sz282 : szOf Tryz.prog 282 = some 1 := by kernel_rfl
theorem ti283 : tinf Tryz.prog 283 = some { d := TD.int IntKind.i32, size := 1, bytes := 4, zero := [PVal.dat (Dat.int IntKind.i32 (0))] } := by kernel_rfl
theorem ag283 : aggSize Tryz.prog 283 = some none := by kernel_rfl
theorem sz283 : szOf Tryz.prog 283 = some 1 := by kernel_rfl
theorem ti284 : tinf Tryz.prog 284 = some { d := TD.struct [(12, 0), (12, 1), (61, 2), (278, 3), (5, 4), (5, 5), (279, 6), (280, 7), (281, 8), (282, 9), (283, 10)], size := 11, bytes := 48, zero := [PVal.dat (Dat.int IntKind.u64 (0)), PVal.dat (Dat.int IntKind.u64 (0)), PVal.dat (Dat.int IntKind.u32 (0)), PVal.dat (Dat.int IntKind.u8 (0)), PVal.dat (Dat.int IntKind.u8 (0)), PVal.dat (Dat.int IntKind.u8 (0)), PVal.dat (Dat.int IntKind.u8 (0)), PVal.top, PVal.top, PVal.dat (Dat.int IntKind.i32 (0)), PVal.dat (Dat.int IntKind.i32 (0))] } := by kernel_rfl
theorem so284 : sizesOf Tryz.prog [(12, 0), (12, 1), (61, 2), (278, 3), (5, 4), (5, 5), (279, 6), (280, 7), (281, 8), (282, 9), (283, 10)] = some [(0, 1), (1, 1), (2, 1), (3, 1), (4, 1), (5, 1), (6, 1), (7, 1), (8, 1), (9, 1), (10, 1)] := by kernel_rfl
theorem ag284 : aggSize Tryz.prog 284 = some (some 11) := by kernel_rfl
theorem sz284 : szOf Tryz.prog 284 = some 11 := by kernel_rfl
theorem ti285 : tinf Tryz.prog 285 = some { d := TD.struct [(12, 0), (12, 1), (61, 2), (278, 3), (5, 4), (5, 5), (279, 6), (280, 7), (281, 8), (282, 9), (283, 10)], size := 11, bytes := 48, zero := [PVal.dat (Dat.int IntKind.u64 (0)), PVal.dat (Dat.int IntKind.u64 (0)), PVal.dat (Dat.int IntKind.u32 (0)), PVal.dat (Dat.int IntKind.u8 (0)), PVal.dat (Dat.int IntKind.u8 (0)), PVal.dat (Dat.int IntKind.u8 (0)), PVal.dat (Dat.int IntKind.u8 (0)), PVal.top, PVal.top, PVal.dat (Dat.int IntKind.i32 (0)), PVal.dat (Dat.int IntKind.i32 (0))] } := by kernel_rfl
theorem so285 : sizesOf Tryz.prog [(12, 0), (12, 1), (61, 2), (278, 3), (5, 4), (5, 5), (279, 6), (280, 7), (281, 8), (282, 9), (283, 10)] = some [(0, 1), (1, 1), (2, 1), (3, 1), (4, 1), (5, 1), (6, 1), (7, 1), (8, 1), (9, 1), (10, 1)] := by kernel_rfl
theorem ag285 : aggSize Tryz.prog 285 = some (some 11) := by kernel_rfl
theorem sz285 : szOf Tryz.prog 285 = some 11 := by kernel_rfl
theorem ti286 : tinf Tryz.prog 286 = some { d := TD.other, size := 1, bytes := 8, zero := [PVal.top] } := by kernel_rfl
theorem ag286 : aggSize Tryz.prog 286 = some none := by kernel_rfl
theorem sz286 : szOf Tryz.prog 286 = some 1 := by kernel_rfl
attribute [simp] ti0 ag0 sz0 ti1 ag1 sz1 ti2 ag2 sz2 ti3 ag3 sz3 ti4 ag4 sz4 ti5 ag5 sz5 ti6 ag6 sz6 ti7 so7 ag7 sz7 eq7 ti8 so8 ag8 sz8 eq8 ti9 ag9 sz9 ti10 ag10 sz10 ti11 ag11 sz11 ti12 ag12 sz12 ti13 so13 ag13 sz13 ti14 so14 ag14 sz14 ti15 ag15 sz15 ti16 ag16 sz16 ti17 ag17 sz17 ti18 so18 ag18 sz18 ti19 so19 ag19 sz19 ti20 ag20 sz20 ti21 ag21 sz21 ti22 ag22 sz22 ti23 ag23 sz23 ti24 so24 ag24 sz24 eq24 ti25 so25 ag25 sz25 eq25 ti26 ag26 sz26 ti27 ag27 sz27 ti28 ag28 sz28 ti29 ag29 sz29 ti30 ag30 sz30 ti31 ag31 sz31 ti32 ag32 sz32 ti33 ag33 sz33 ti34 ag34 sz34 ti35 ag35 sz35 ti36 ag36 sz36 ti37 ag37 sz37 ti38 ag38 sz38 ti39 ag39 sz39 ti40 ag40 sz40 ti41 ag41 sz41 ti42 ag42 sz42 ti43 ag43 sz43 ti44 ag44 sz44 ti45 ag45 sz45 ti46 ag46 sz46 ti47 ag47 sz47 ti48 ag48 sz48 ti49 ag49 sz49 ti50 ag50 sz50 ti51 so51 ag51 sz51 eq51 ti52 so52 ag52 sz52 eq52 ti53 ag53 sz53 ti54 ag54 sz54 ti55 ag55 sz55 ti56 ag56 sz56 ti57 ag57 sz57 ti58 ag58 sz58 ti59 ag59 sz59 ti60 ag60 sz60 ti61 ag61 sz61 ti62 so62 ag62 sz62 eq62 ti63 so63 ag63 sz63 eq63 ti64 ag64 sz64 ti65 ag65 sz65 ti66 so66 ag66 sz66 eq66 ti67 so67 ag67 sz67 eq67 ti68 ag68 sz68 ti69 ag69 sz69 ti70 ag70 sz70 ti71 ag71 sz71 ti72 ag72 sz72 ti73 ag73 sz73 ti74 ag74 sz74 ti75 ag75 sz75 ti76 ag76 sz76 ti77 ag77 sz77 ti78 ag78 sz78 ti79 so79 ag79 sz79 ti80 so80 ag80 sz80 ti81 so81 ag81 sz81 ti82 so82 ag82 sz82 ti83 ag83 sz83 ti84 ag84 sz84 ti85 ag85 sz85 ti86 ag86 sz86 ti87 ag87 sz87 ti88 so88 ag88 sz88 ti89 so89 ag89 sz89 ti90 ag90 sz90 ti91 ag91 sz91 ti92 ag92 sz92 ti93 ag93 sz93 ti94 ag94 sz94 ti95 ag95 sz95 ti96 ag96 sz96 ti97 ag97 sz97 ti98 ag98 sz98 ti99 ag99 sz99 ti100 ag100 sz100 ti101 ag101 sz101 ti102 ag102 sz102 ti103 ag103 sz103 ti104 ag104 sz104 ti105 ag105 sz105 ti106 ag106 sz106 ti107 ag107 sz107 ti108 ag108 sz108 ti109 ag109 sz109 ti110 ag110 sz110 ti111 ag111 sz111 ti112 ag112 sz112 ti113 ag113 sz113 ti114 ag114 sz114 ti115 ag115 sz115 ti116 ag116 sz116 ti117 so117 ag117 sz117 eq117 ti118 so118 ag118 sz118 eq118 ti119 ag119 sz119 ti120 so120 ag120 sz120 eq120 ti121 so121 ag121 sz121 eq121 ti122 ag122 sz122 ti123 ag123 sz123 ti124 ag124 sz124 ti125 ag125 sz125 ti126 so126 ag126 sz126 ti127 so127 ag127 sz127 ti128 ag128 sz128 ti129 ag129 sz129 ti130 ag130 sz130 ti131 ag131 sz131 ti132 so132 ag132 sz132 ti133 so133 ag133 sz133 ti134 ag134 sz134 ti135 ag135 sz135 ti136 ag136 sz136 ti137 ag137 sz137 ti138 ag138 sz138 ti139 so139 ag139 sz139 ti140 so140 ag140 sz140 ti141 ag141 sz141 ti142 ag142 sz142 ti143 ag143 sz143 ti144 ag144 sz144 ti145 ag145 sz145 ti146 ag146 sz146 ti147 ag147 sz147 ti148 ag148 sz148 ti149 ag149 sz149 ti150 ag150 sz150 ti151 so151 ag151 sz151 ti152 so152 ag152 sz152 ti153 ag153 sz153 ti154 ag154 sz154 ti155 ag155 sz155 ti156 ag156 sz156 ti157 ag157 sz157 ti158 ag158 sz158 ti159 ag159 sz159 ti160 ag160 sz160 ti161 ag161 sz161 ti162 ag162 sz162 ti163 ag163 sz163 ti164 ag164 sz164 ti165 ag165 sz165 ti166 ag166 sz166 ti167 ag167 sz167 ti168 ag168 sz168 ti169 ag169 sz169 ti170 ag170 sz170 ti171 ag171 sz171 ti172 ag172 sz172 ti173 ag173 sz173 ti174 ag174 sz174 ti175 ag175 sz175 ti176 so176 ag176 sz176 ti177 so177 ag177 sz177 ti178 ag178 sz178 ti179 ag179 sz179 ti180 ag180 sz180 ti181 so181 ag181 sz181 eq181 ti182 so182 ag182 sz182 eq182 ti183 ag183 sz183 ti184 so184 ag184 sz184 ti185 so185 ag185 sz185 ti186 ag186 sz186 ti187 ag187 sz187 ti188 ag188 sz188 ti189 ag189 sz189 ti190 ag190 sz190 ti191 ag191 sz191 ti192 ag192 sz192 ti193 ag193 sz193 ti194 ag194 sz194 ti195 ag195 sz195 ti196 ag196 sz196 ti197 so197 ag197 sz197 eq197 ti198 so198 ag198 sz198 eq198 ti199 ag199 sz199 ti200 ag200 sz200 ti201 ag201 sz201 ti202 ag202 sz202 ti203 ag203 sz203 ti204 ag204 sz204 ti205 ag205 sz205 ti206 ag206 sz206 ti207 ag207 sz207 ti208 ag208 sz208 ti209 ag209 sz209 ti210 ag210 sz210 ti211 ag211 sz211 ti212 ag212 sz212 ti213 ag213 sz213 ti214 ag214 sz214 ti215 ag215 sz215 ti216 so216 ag216 sz216 ti217 so217 ag217 sz217 ti218 so218 ag218 sz218 eq218 ti219 so219 ag219 sz219 eq219 ti220 ag220 sz220 ti221 ag221 sz221 ti222 ag222 sz222 ti223 ag223 sz223 ti224 ag224 sz224 ti225 ag225 sz225 ti226 ag226 sz226 ti227 ag227 sz227 ti228 ag228 sz228 ti229 ag229 sz229 ti230 ag230 sz230 ti231 ag231 sz231 ti232 ag232 sz232 ti233 ag233 sz233 ti234 so234 ag234 sz234 eq234 ti235 so235 ag235 sz235 eq235 ti236 ag236 sz236 ti237 so237 ag237 sz237 eq237 ti238 so238 ag238 sz238 eq238 ti239 ag239 sz239 ti240 ag240 sz240 ti241 so241 ag241 sz241 eq241 ti242 so242 ag242 sz242 eq242 ti243 ag243 sz243 ti244 so244 ag244 sz244 eq244 ti245 so245 ag245 sz245 eq245 ti246 ag246 sz246 ti247 ag247 sz247 ti248 ag248 sz248 ti249 ag249 sz249 ti250 ag250 sz250 ti251 ag251 sz251 ti252 ag252 sz252 ti253 ag253 sz253 ti254 ag254 sz254 ti255 ag255 sz255 ti256 ag256 sz256 ti257 ag257 sz257 ti258 ag258 sz258 ti259 ag259 sz259 ti260 ag260 sz260 ti261 ag261 sz261 ti262 ag262 sz262 ti263 ag263 sz263 ti264 ag264 sz264 ti265 ag265 sz265 ti266 ag266 sz266 ti267 ag267 sz267 ti268 ag268 sz268 ti269 ag269 sz269 ti270 ag270 sz270 ti271 ag271 sz271 ti272 so272 ag272 sz272 ti273 so273 ag273 sz273 ag274 sz274 ag275 sz275 ag276 sz276 ti277 ag277 sz277 ti278 ag278 sz278 ti279 ag279 sz279 ti280 ag280 sz280 ti281 ag281 sz281 ti282 ag282 sz282 ti283 ag283 sz283 ti284 so284 ag284 sz284 ti285 so285 ag285 sz285 ti286 ag286 sz286
end Go.Proofs.YtflpgdlgfffigaaGreat
