/-
  Lists of so many values, written out.
  few, high, alive of the laws of layer 3; what Bits answers.
  What Bits answers.
-/
import Derived.Test.YtmbbdjpnecjleaaQC
import Derived.Test.YtmbbdjpnecjleaaRoC
import Derived.Test.YtmbbdjpnecjleaaLBase
import Derived.Test.YtmbbdjpnecjleaaRoB
namespace Go.Proofs.Ytmbbdjpnecjleaa
section
theorem lits_85 {l0 : List Value} (hs0 : l0.length = 85) : ∃ u : Nat → Value, l0 = [u 0, u 1, u 2, u 3, u 4, u 5, u 6, u 7, u 8, u 9, u 10, u 11, u 12, u 13, u 14, u 15, u 16, u 17, u 18, u 19, u 20, u 21, u 22, u 23, u 24, u 25, u 26, u 27, u 28, u 29, u 30, u 31, u 32, u 33, u 34, u 35, u 36, u 37, u 38, u 39, u 40, u 41, u 42, u 43, u 44, u 45, u 46, u 47, u 48, u 49, u 50, u 51, u 52, u 53, u 54, u 55, u 56, u 57, u 58, u 59, u 60, u 61, u 62, u 63, u 64, u 65, u 66, u 67, u 68, u 69, u 70, u 71, u 72, u 73, u 74, u 75, u 76, u 77, u 78, u 79, u 80, u 81, u 82, u 83, u 84] := by
  refine ⟨fun k => l0.getD k undef, ?_⟩
  obtain ⟨u0, l1, rfl, hs1⟩ := cons_of (n := 84) hs0; clear hs0
  obtain ⟨u1, l2, rfl, hs2⟩ := cons_of (n := 83) hs1; clear hs1
  obtain ⟨u2, l3, rfl, hs3⟩ := cons_of (n := 82) hs2; clear hs2
  obtain ⟨u3, l4, rfl, hs4⟩ := cons_of (n := 81) hs3; clear hs3
  obtain ⟨u4, l5, rfl, hs5⟩ := cons_of (n := 80) hs4; clear hs4
  obtain ⟨u5, l6, rfl, hs6⟩ := cons_of (n := 79) hs5; clear hs5
  obtain ⟨u6, l7, rfl, hs7⟩ := cons_of (n := 78) hs6; clear hs6
  obtain ⟨u7, l8, rfl, hs8⟩ := cons_of (n := 77) hs7; clear hs7
  obtain ⟨u8, l9, rfl, hs9⟩ := cons_of (n := 76) hs8; clear hs8
  obtain ⟨u9, l10, rfl, hs10⟩ := cons_of (n := 75) hs9; clear hs9
  obtain ⟨u10, l11, rfl, hs11⟩ := cons_of (n := 74) hs10; clear hs10
  obtain ⟨u11, l12, rfl, hs12⟩ := cons_of (n := 73) hs11; clear hs11
  obtain ⟨u12, l13, rfl, hs13⟩ := cons_of (n := 72) hs12; clear hs12
  obtain ⟨u13, l14, rfl, hs14⟩ := cons_of (n := 71) hs13; clear hs13
  obtain ⟨u14, l15, rfl, hs15⟩ := cons_of (n := 70) hs14; clear hs14
  obtain ⟨u15, l16, rfl, hs16⟩ := cons_of (n := 69) hs15; clear hs15
  obtain ⟨u16, l17, rfl, hs17⟩ := cons_of (n := 68) hs16; clear hs16
  obtain ⟨u17, l18, rfl, hs18⟩ := cons_of (n := 67) hs17; clear hs17
  obtain ⟨u18, l19, rfl, hs19⟩ := cons_of (n := 66) hs18; clear hs18
  obtain ⟨u19, l20, rfl, hs20⟩ := cons_of (n := 65) hs19; clear hs19
  obtain ⟨u20, l21, rfl, hs21⟩ := cons_of (n := 64) hs20; clear hs20
  obtain ⟨u21, l22, rfl, hs22⟩ := cons_of (n := 63) hs21; clear hs21
  obtain ⟨u22, l23, rfl, hs23⟩ := cons_of (n := 62) hs22; clear hs22
  obtain ⟨u23, l24, rfl, hs24⟩ := cons_of (n := 61) hs23; clear hs23
  obtain ⟨u24, l25, rfl, hs25⟩ := cons_of (n := 60) hs24; clear hs24
  obtain ⟨u25, l26, rfl, hs26⟩ := cons_of (n := 59) hs25; clear hs25
  obtain ⟨u26, l27, rfl, hs27⟩ := cons_of (n := 58) hs26; clear hs26
  obtain ⟨u27, l28, rfl, hs28⟩ := cons_of (n := 57) hs27; clear hs27
  obtain ⟨u28, l29, rfl, hs29⟩ := cons_of (n := 56) hs28; clear hs28
  obtain ⟨u29, l30, rfl, hs30⟩ := cons_of (n := 55) hs29; clear hs29
  obtain ⟨u30, l31, rfl, hs31⟩ := cons_of (n := 54) hs30; clear hs30
  obtain ⟨u31, l32, rfl, hs32⟩ := cons_of (n := 53) hs31; clear hs31
  obtain ⟨u32, l33, rfl, hs33⟩ := cons_of (n := 52) hs32; clear hs32
  obtain ⟨u33, l34, rfl, hs34⟩ := cons_of (n := 51) hs33; clear hs33
  obtain ⟨u34, l35, rfl, hs35⟩ := cons_of (n := 50) hs34; clear hs34
  obtain ⟨u35, l36, rfl, hs36⟩ := cons_of (n := 49) hs35; clear hs35
  obtain ⟨u36, l37, rfl, hs37⟩ := cons_of (n := 48) hs36; clear hs36
  obtain ⟨u37, l38, rfl, hs38⟩ := cons_of (n := 47) hs37; clear hs37
  obtain ⟨u38, l39, rfl, hs39⟩ := cons_of (n := 46) hs38; clear hs38
  obtain ⟨u39, l40, rfl, hs40⟩ := cons_of (n := 45) hs39; clear hs39
  obtain ⟨u40, l41, rfl, hs41⟩ := cons_of (n := 44) hs40; clear hs40
  obtain ⟨u41, l42, rfl, hs42⟩ := cons_of (n := 43) hs41; clear hs41
  obtain ⟨u42, l43, rfl, hs43⟩ := cons_of (n := 42) hs42; clear hs42
  obtain ⟨u43, l44, rfl, hs44⟩ := cons_of (n := 41) hs43; clear hs43
  obtain ⟨u44, l45, rfl, hs45⟩ := cons_of (n := 40) hs44; clear hs44
  obtain ⟨u45, l46, rfl, hs46⟩ := cons_of (n := 39) hs45; clear hs45
  obtain ⟨u46, l47, rfl, hs47⟩ := cons_of (n := 38) hs46; clear hs46
  obtain ⟨u47, l48, rfl, hs48⟩ := cons_of (n := 37) hs47; clear hs47
  obtain ⟨u48, l49, rfl, hs49⟩ := cons_of (n := 36) hs48; clear hs48
  obtain ⟨u49, l50, rfl, hs50⟩ := cons_of (n := 35) hs49; clear hs49
  obtain ⟨u50, l51, rfl, hs51⟩ := cons_of (n := 34) hs50; clear hs50
  obtain ⟨u51, l52, rfl, hs52⟩ := cons_of (n := 33) hs51; clear hs51
  obtain ⟨u52, l53, rfl, hs53⟩ := cons_of (n := 32) hs52; clear hs52
  obtain ⟨u53, l54, rfl, hs54⟩ := cons_of (n := 31) hs53; clear hs53
  obtain ⟨u54, l55, rfl, hs55⟩ := cons_of (n := 30) hs54; clear hs54
  obtain ⟨u55, l56, rfl, hs56⟩ := cons_of (n := 29) hs55; clear hs55
  obtain ⟨u56, l57, rfl, hs57⟩ := cons_of (n := 28) hs56; clear hs56
  obtain ⟨u57, l58, rfl, hs58⟩ := cons_of (n := 27) hs57; clear hs57
  obtain ⟨u58, l59, rfl, hs59⟩ := cons_of (n := 26) hs58; clear hs58
  obtain ⟨u59, l60, rfl, hs60⟩ := cons_of (n := 25) hs59; clear hs59
  obtain ⟨u60, l61, rfl, hs61⟩ := cons_of (n := 24) hs60; clear hs60
  obtain ⟨u61, l62, rfl, hs62⟩ := cons_of (n := 23) hs61; clear hs61
  obtain ⟨u62, l63, rfl, hs63⟩ := cons_of (n := 22) hs62; clear hs62
  obtain ⟨u63, l64, rfl, hs64⟩ := cons_of (n := 21) hs63; clear hs63
  obtain ⟨u64, l65, rfl, hs65⟩ := cons_of (n := 20) hs64; clear hs64
  obtain ⟨u65, l66, rfl, hs66⟩ := cons_of (n := 19) hs65; clear hs65
  obtain ⟨u66, l67, rfl, hs67⟩ := cons_of (n := 18) hs66; clear hs66
  obtain ⟨u67, l68, rfl, hs68⟩ := cons_of (n := 17) hs67; clear hs67
  obtain ⟨u68, l69, rfl, hs69⟩ := cons_of (n := 16) hs68; clear hs68
  obtain ⟨u69, l70, rfl, hs70⟩ := cons_of (n := 15) hs69; clear hs69
  obtain ⟨u70, l71, rfl, hs71⟩ := cons_of (n := 14) hs70; clear hs70
  obtain ⟨u71, l72, rfl, hs72⟩ := cons_of (n := 13) hs71; clear hs71
  obtain ⟨u72, l73, rfl, hs73⟩ := cons_of (n := 12) hs72; clear hs72
  obtain ⟨u73, l74, rfl, hs74⟩ := cons_of (n := 11) hs73; clear hs73
  obtain ⟨u74, l75, rfl, hs75⟩ := cons_of (n := 10) hs74; clear hs74
  obtain ⟨u75, l76, rfl, hs76⟩ := cons_of (n := 9) hs75; clear hs75
  obtain ⟨u76, l77, rfl, hs77⟩ := cons_of (n := 8) hs76; clear hs76
  obtain ⟨u77, l78, rfl, hs78⟩ := cons_of (n := 7) hs77; clear hs77
  obtain ⟨u78, l79, rfl, hs79⟩ := cons_of (n := 6) hs78; clear hs78
  obtain ⟨u79, l80, rfl, hs80⟩ := cons_of (n := 5) hs79; clear hs79
  obtain ⟨u80, l81, rfl, hs81⟩ := cons_of (n := 4) hs80; clear hs80
  obtain ⟨u81, l82, rfl, hs82⟩ := cons_of (n := 3) hs81; clear hs81
  obtain ⟨u82, l83, rfl, hs83⟩ := cons_of (n := 2) hs82; clear hs82
  obtain ⟨u83, l84, rfl, hs84⟩ := cons_of (n := 1) hs83; clear hs83
  obtain ⟨u84, l85, rfl, hs85⟩ := cons_of (n := 0) hs84; clear hs84
  obtain rfl := List.eq_nil_of_length_eq_zero hs85
  rfl
theorem lits_103 {l0 : List Value} (hs0 : l0.length = 103) : ∃ u : Nat → Value, l0 = [u 0, u 1, u 2, u 3, u 4, u 5, u 6, u 7, u 8, u 9, u 10, u 11, u 12, u 13, u 14, u 15, u 16, u 17, u 18, u 19, u 20, u 21, u 22, u 23, u 24, u 25, u 26, u 27, u 28, u 29, u 30, u 31, u 32, u 33, u 34, u 35, u 36, u 37, u 38, u 39, u 40, u 41, u 42, u 43, u 44, u 45, u 46, u 47, u 48, u 49, u 50, u 51, u 52, u 53, u 54, u 55, u 56, u 57, u 58, u 59, u 60, u 61, u 62, u 63, u 64, u 65, u 66, u 67, u 68, u 69, u 70, u 71, u 72, u 73, u 74, u 75, u 76, u 77, u 78, u 79, u 80, u 81, u 82, u 83, u 84, u 85, u 86, u 87, u 88, u 89, u 90, u 91, u 92, u 93, u 94, u 95, u 96, u 97, u 98, u 99, u 100, u 101, u 102] := by
  refine ⟨fun k => l0.getD k undef, ?_⟩
  obtain ⟨u0, l1, rfl, hs1⟩ := cons_of (n := 102) hs0; clear hs0
  obtain ⟨u1, l2, rfl, hs2⟩ := cons_of (n := 101) hs1; clear hs1
  obtain ⟨u2, l3, rfl, hs3⟩ := cons_of (n := 100) hs2; clear hs2
  obtain ⟨u3, l4, rfl, hs4⟩ := cons_of (n := 99) hs3; clear hs3
  obtain ⟨u4, l5, rfl, hs5⟩ := cons_of (n := 98) hs4; clear hs4
  obtain ⟨u5, l6, rfl, hs6⟩ := cons_of (n := 97) hs5; clear hs5
  obtain ⟨u6, l7, rfl, hs7⟩ := cons_of (n := 96) hs6; clear hs6
  obtain ⟨u7, l8, rfl, hs8⟩ := cons_of (n := 95) hs7; clear hs7
  obtain ⟨u8, l9, rfl, hs9⟩ := cons_of (n := 94) hs8; clear hs8
  obtain ⟨u9, l10, rfl, hs10⟩ := cons_of (n := 93) hs9; clear hs9
  obtain ⟨u10, l11, rfl, hs11⟩ := cons_of (n := 92) hs10; clear hs10
  obtain ⟨u11, l12, rfl, hs12⟩ := cons_of (n := 91) hs11; clear hs11
  obtain ⟨u12, l13, rfl, hs13⟩ := cons_of (n := 90) hs12; clear hs12
  obtain ⟨u13, l14, rfl, hs14⟩ := cons_of (n := 89) hs13; clear hs13
  obtain ⟨u14, l15, rfl, hs15⟩ := cons_of (n := 88) hs14; clear hs14
  obtain ⟨u15, l16, rfl, hs16⟩ := cons_of (n := 87) hs15; clear hs15
  obtain ⟨u16, l17, rfl, hs17⟩ := cons_of (n := 86) hs16; clear hs16
  obtain ⟨u17, l18, rfl, hs18⟩ := cons_of (n := 85) hs17; clear hs17
  obtain ⟨u18, l19, rfl, hs19⟩ := cons_of (n := 84) hs18; clear hs18
  obtain ⟨u19, l20, rfl, hs20⟩ := cons_of (n := 83) hs19; clear hs19
  obtain ⟨u20, l21, rfl, hs21⟩ := cons_of (n := 82) hs20; clear hs20
  obtain ⟨u21, l22, rfl, hs22⟩ := cons_of (n := 81) hs21; clear hs21
  obtain ⟨u22, l23, rfl, hs23⟩ := cons_of (n := 80) hs22; clear hs22
  obtain ⟨u23, l24, rfl, hs24⟩ := cons_of (n := 79) hs23; clear hs23
  obtain ⟨u24, l25, rfl, hs25⟩ := cons_of (n := 78) hs24; clear hs24
  obtain ⟨u25, l26, rfl, hs26⟩ := cons_of (n := 77) hs25; clear hs25
  obtain ⟨u26, l27, rfl, hs27⟩ := cons_of (n := 76) hs26; clear hs26
  obtain ⟨u27, l28, rfl, hs28⟩ := cons_of (n := 75) hs27; clear hs27
  obtain ⟨u28, l29, rfl, hs29⟩ := cons_of (n := 74) hs28; clear hs28
  obtain ⟨u29, l30, rfl, hs30⟩ := cons_of (n := 73) hs29; clear hs29
  obtain ⟨u30, l31, rfl, hs31⟩ := cons_of (n := 72) hs30; clear hs30
  obtain ⟨u31, l32, rfl, hs32⟩ := cons_of (n := 71) hs31; clear hs31
  obtain ⟨u32, l33, rfl, hs33⟩ := cons_of (n := 70) hs32; clear hs32
  obtain ⟨u33, l34, rfl, hs34⟩ := cons_of (n := 69) hs33; clear hs33
  obtain ⟨u34, l35, rfl, hs35⟩ := cons_of (n := 68) hs34; clear hs34
  obtain ⟨u35, l36, rfl, hs36⟩ := cons_of (n := 67) hs35; clear hs35
  obtain ⟨u36, l37, rfl, hs37⟩ := cons_of (n := 66) hs36; clear hs36
  obtain ⟨u37, l38, rfl, hs38⟩ := cons_of (n := 65) hs37; clear hs37
  obtain ⟨u38, l39, rfl, hs39⟩ := cons_of (n := 64) hs38; clear hs38
  obtain ⟨u39, l40, rfl, hs40⟩ := cons_of (n := 63) hs39; clear hs39
  obtain ⟨u40, l41, rfl, hs41⟩ := cons_of (n := 62) hs40; clear hs40
  obtain ⟨u41, l42, rfl, hs42⟩ := cons_of (n := 61) hs41; clear hs41
  obtain ⟨u42, l43, rfl, hs43⟩ := cons_of (n := 60) hs42; clear hs42
  obtain ⟨u43, l44, rfl, hs44⟩ := cons_of (n := 59) hs43; clear hs43
  obtain ⟨u44, l45, rfl, hs45⟩ := cons_of (n := 58) hs44; clear hs44
  obtain ⟨u45, l46, rfl, hs46⟩ := cons_of (n := 57) hs45; clear hs45
  obtain ⟨u46, l47, rfl, hs47⟩ := cons_of (n := 56) hs46; clear hs46
  obtain ⟨u47, l48, rfl, hs48⟩ := cons_of (n := 55) hs47; clear hs47
  obtain ⟨u48, l49, rfl, hs49⟩ := cons_of (n := 54) hs48; clear hs48
  obtain ⟨u49, l50, rfl, hs50⟩ := cons_of (n := 53) hs49; clear hs49
  obtain ⟨u50, l51, rfl, hs51⟩ := cons_of (n := 52) hs50; clear hs50
  obtain ⟨u51, l52, rfl, hs52⟩ := cons_of (n := 51) hs51; clear hs51
  obtain ⟨u52, l53, rfl, hs53⟩ := cons_of (n := 50) hs52; clear hs52
  obtain ⟨u53, l54, rfl, hs54⟩ := cons_of (n := 49) hs53; clear hs53
  obtain ⟨u54, l55, rfl, hs55⟩ := cons_of (n := 48) hs54; clear hs54
  obtain ⟨u55, l56, rfl, hs56⟩ := cons_of (n := 47) hs55; clear hs55
  obtain ⟨u56, l57, rfl, hs57⟩ := cons_of (n := 46) hs56; clear hs56
  obtain ⟨u57, l58, rfl, hs58⟩ := cons_of (n := 45) hs57; clear hs57
  obtain ⟨u58, l59, rfl, hs59⟩ := cons_of (n := 44) hs58; clear hs58
  obtain ⟨u59, l60, rfl, hs60⟩ := cons_of (n := 43) hs59; clear hs59
  obtain ⟨u60, l61, rfl, hs61⟩ := cons_of (n := 42) hs60; clear hs60
  obtain ⟨u61, l62, rfl, hs62⟩ := cons_of (n := 41) hs61; clear hs61
  obtain ⟨u62, l63, rfl, hs63⟩ := cons_of (n := 40) hs62; clear hs62
  obtain ⟨u63, l64, rfl, hs64⟩ := cons_of (n := 39) hs63; clear hs63
  obtain ⟨u64, l65, rfl, hs65⟩ := cons_of (n := 38) hs64; clear hs64
  obtain ⟨u65, l66, rfl, hs66⟩ := cons_of (n := 37) hs65; clear hs65
  obtain ⟨u66, l67, rfl, hs67⟩ := cons_of (n := 36) hs66; clear hs66
  obtain ⟨u67, l68, rfl, hs68⟩ := cons_of (n := 35) hs67; clear hs67
  obtain ⟨u68, l69, rfl, hs69⟩ := cons_of (n := 34) hs68; clear hs68
  obtain ⟨u69, l70, rfl, hs70⟩ := cons_of (n := 33) hs69; clear hs69
  obtain ⟨u70, l71, rfl, hs71⟩ := cons_of (n := 32) hs70; clear hs70
  obtain ⟨u71, l72, rfl, hs72⟩ := cons_of (n := 31) hs71; clear hs71
  obtain ⟨u72, l73, rfl, hs73⟩ := cons_of (n := 30) hs72; clear hs72
  obtain ⟨u73, l74, rfl, hs74⟩ := cons_of (n := 29) hs73; clear hs73
  obtain ⟨u74, l75, rfl, hs75⟩ := cons_of (n := 28) hs74; clear hs74
  obtain ⟨u75, l76, rfl, hs76⟩ := cons_of (n := 27) hs75; clear hs75
  obtain ⟨u76, l77, rfl, hs77⟩ := cons_of (n := 26) hs76; clear hs76
  obtain ⟨u77, l78, rfl, hs78⟩ := cons_of (n := 25) hs77; clear hs77
  obtain ⟨u78, l79, rfl, hs79⟩ := cons_of (n := 24) hs78; clear hs78
  obtain ⟨u79, l80, rfl, hs80⟩ := cons_of (n := 23) hs79; clear hs79
  obtain ⟨u80, l81, rfl, hs81⟩ := cons_of (n := 22) hs80; clear hs80
  obtain ⟨u81, l82, rfl, hs82⟩ := cons_of (n := 21) hs81; clear hs81
  obtain ⟨u82, l83, rfl, hs83⟩ := cons_of (n := 20) hs82; clear hs82
  obtain ⟨u83, l84, rfl, hs84⟩ := cons_of (n := 19) hs83; clear hs83
  obtain ⟨u84, l85, rfl, hs85⟩ := cons_of (n := 18) hs84; clear hs84
  obtain ⟨u85, l86, rfl, hs86⟩ := cons_of (n := 17) hs85; clear hs85
  obtain ⟨u86, l87, rfl, hs87⟩ := cons_of (n := 16) hs86; clear hs86
  obtain ⟨u87, l88, rfl, hs88⟩ := cons_of (n := 15) hs87; clear hs87
  obtain ⟨u88, l89, rfl, hs89⟩ := cons_of (n := 14) hs88; clear hs88
  obtain ⟨u89, l90, rfl, hs90⟩ := cons_of (n := 13) hs89; clear hs89
  obtain ⟨u90, l91, rfl, hs91⟩ := cons_of (n := 12) hs90; clear hs90
  obtain ⟨u91, l92, rfl, hs92⟩ := cons_of (n := 11) hs91; clear hs91
  obtain ⟨u92, l93, rfl, hs93⟩ := cons_of (n := 10) hs92; clear hs92
  obtain ⟨u93, l94, rfl, hs94⟩ := cons_of (n := 9) hs93; clear hs93
  obtain ⟨u94, l95, rfl, hs95⟩ := cons_of (n := 8) hs94; clear hs94
  obtain ⟨u95, l96, rfl, hs96⟩ := cons_of (n := 7) hs95; clear hs95
  obtain ⟨u96, l97, rfl, hs97⟩ := cons_of (n := 6) hs96; clear hs96
  obtain ⟨u97, l98, rfl, hs98⟩ := cons_of (n := 5) hs97; clear hs97
  obtain ⟨u98, l99, rfl, hs99⟩ := cons_of (n := 4) hs98; clear hs98
  obtain ⟨u99, l100, rfl, hs100⟩ := cons_of (n := 3) hs99; clear hs99
  obtain ⟨u100, l101, rfl, hs101⟩ := cons_of (n := 2) hs100; clear hs100
  obtain ⟨u101, l102, rfl, hs102⟩ := cons_of (n := 1) hs101; clear hs101
  obtain ⟨u102, l103, rfl, hs103⟩ := cons_of (n := 0) hs102; clear hs102
  obtain rfl := List.eq_nil_of_length_eq_zero hs103
  rfl
theorem lits_114 {l0 : List Value} (hs0 : l0.length = 114) : ∃ u : Nat → Value, l0 = [u 0, u 1, u 2, u 3, u 4, u 5, u 6, u 7, u 8, u 9, u 10, u 11, u 12, u 13, u 14, u 15, u 16, u 17, u 18, u 19, u 20, u 21, u 22, u 23, u 24, u 25, u 26, u 27, u 28, u 29, u 30, u 31, u 32, u 33, u 34, u 35, u 36, u 37, u 38, u 39, u 40, u 41, u 42, u 43, u 44, u 45, u 46, u 47, u 48, u 49, u 50, u 51, u 52, u 53, u 54, u 55, u 56, u 57, u 58, u 59, u 60, u 61, u 62, u 63, u 64, u 65, u 66, u 67, u 68, u 69, u 70, u 71, u 72, u 73, u 74, u 75, u 76, u 77, u 78, u 79, u 80, u 81, u 82, u 83, u 84, u 85, u 86, u 87, u 88, u 89, u 90, u 91, u 92, u 93, u 94, u 95, u 96, u 97, u 98, u 99, u 100, u 101, u 102, u 103, u 104, u 105, u 106, u 107, u 108, u 109, u 110, u 111, u 112, u 113] := by
  refine ⟨fun k => l0.getD k undef, ?_⟩
  obtain ⟨u0, l1, rfl, hs1⟩ := cons_of (n := 113) hs0; clear hs0
  obtain ⟨u1, l2, rfl, hs2⟩ := cons_of (n := 112) hs1; clear hs1
  obtain ⟨u2, l3, rfl, hs3⟩ := cons_of (n := 111) hs2; clear hs2
  obtain ⟨u3, l4, rfl, hs4⟩ := cons_of (n := 110) hs3; clear hs3
  obtain ⟨u4, l5, rfl, hs5⟩ := cons_of (n := 109) hs4; clear hs4
  obtain ⟨u5, l6, rfl, hs6⟩ := cons_of (n := 108) hs5; clear hs5
  obtain ⟨u6, l7, rfl, hs7⟩ := cons_of (n := 107) hs6; clear hs6
  obtain ⟨u7, l8, rfl, hs8⟩ := cons_of (n := 106) hs7; clear hs7
  obtain ⟨u8, l9, rfl, hs9⟩ := cons_of (n := 105) hs8; clear hs8
  obtain ⟨u9, l10, rfl, hs10⟩ := cons_of (n := 104) hs9; clear hs9
  obtain ⟨u10, l11, rfl, hs11⟩ := cons_of (n := 103) hs10; clear hs10
  obtain ⟨u11, l12, rfl, hs12⟩ := cons_of (n := 102) hs11; clear hs11
  obtain ⟨u12, l13, rfl, hs13⟩ := cons_of (n := 101) hs12; clear hs12
  obtain ⟨u13, l14, rfl, hs14⟩ := cons_of (n := 100) hs13; clear hs13
  obtain ⟨u14, l15, rfl, hs15⟩ := cons_of (n := 99) hs14; clear hs14
  obtain ⟨u15, l16, rfl, hs16⟩ := cons_of (n := 98) hs15; clear hs15
  obtain ⟨u16, l17, rfl, hs17⟩ := cons_of (n := 97) hs16; clear hs16
  obtain ⟨u17, l18, rfl, hs18⟩ := cons_of (n := 96) hs17; clear hs17
  obtain ⟨u18, l19, rfl, hs19⟩ := cons_of (n := 95) hs18; clear hs18
  obtain ⟨u19, l20, rfl, hs20⟩ := cons_of (n := 94) hs19; clear hs19
  obtain ⟨u20, l21, rfl, hs21⟩ := cons_of (n := 93) hs20; clear hs20
  obtain ⟨u21, l22, rfl, hs22⟩ := cons_of (n := 92) hs21; clear hs21
  obtain ⟨u22, l23, rfl, hs23⟩ := cons_of (n := 91) hs22; clear hs22
  obtain ⟨u23, l24, rfl, hs24⟩ := cons_of (n := 90) hs23; clear hs23
  obtain ⟨u24, l25, rfl, hs25⟩ := cons_of (n := 89) hs24; clear hs24
  obtain ⟨u25, l26, rfl, hs26⟩ := cons_of (n := 88) hs25; clear hs25
  obtain ⟨u26, l27, rfl, hs27⟩ := cons_of (n := 87) hs26; clear hs26
  obtain ⟨u27, l28, rfl, hs28⟩ := cons_of (n := 86) hs27; clear hs27
  obtain ⟨u28, l29, rfl, hs29⟩ := cons_of (n := 85) hs28; clear hs28
  obtain ⟨u29, l30, rfl, hs30⟩ := cons_of (n := 84) hs29; clear hs29
  obtain ⟨u30, l31, rfl, hs31⟩ := cons_of (n := 83) hs30; clear hs30
  obtain ⟨u31, l32, rfl, hs32⟩ := cons_of (n := 82) hs31; clear hs31
  obtain ⟨u32, l33, rfl, hs33⟩ := cons_of (n := 81) hs32; clear hs32
  obtain ⟨u33, l34, rfl, hs34⟩ := cons_of (n := 80) hs33; clear hs33
  obtain ⟨u34, l35, rfl, hs35⟩ := cons_of (n := 79) hs34; clear hs34
  obtain ⟨u35, l36, rfl, hs36⟩ := cons_of (n := 78) hs35; clear hs35
  obtain ⟨u36, l37, rfl, hs37⟩ := cons_of (n := 77) hs36; clear hs36
  obtain ⟨u37, l38, rfl, hs38⟩ := cons_of (n := 76) hs37; clear hs37
  obtain ⟨u38, l39, rfl, hs39⟩ := cons_of (n := 75) hs38; clear hs38
  obtain ⟨u39, l40, rfl, hs40⟩ := cons_of (n := 74) hs39; clear hs39
  obtain ⟨u40, l41, rfl, hs41⟩ := cons_of (n := 73) hs40; clear hs40
  obtain ⟨u41, l42, rfl, hs42⟩ := cons_of (n := 72) hs41; clear hs41
  obtain ⟨u42, l43, rfl, hs43⟩ := cons_of (n := 71) hs42; clear hs42
  obtain ⟨u43, l44, rfl, hs44⟩ := cons_of (n := 70) hs43; clear hs43
  obtain ⟨u44, l45, rfl, hs45⟩ := cons_of (n := 69) hs44; clear hs44
  obtain ⟨u45, l46, rfl, hs46⟩ := cons_of (n := 68) hs45; clear hs45
  obtain ⟨u46, l47, rfl, hs47⟩ := cons_of (n := 67) hs46; clear hs46
  obtain ⟨u47, l48, rfl, hs48⟩ := cons_of (n := 66) hs47; clear hs47
  obtain ⟨u48, l49, rfl, hs49⟩ := cons_of (n := 65) hs48; clear hs48
  obtain ⟨u49, l50, rfl, hs50⟩ := cons_of (n := 64) hs49; clear hs49
  obtain ⟨u50, l51, rfl, hs51⟩ := cons_of (n := 63) hs50; clear hs50
  obtain ⟨u51, l52, rfl, hs52⟩ := cons_of (n := 62) hs51; clear hs51
  obtain ⟨u52, l53, rfl, hs53⟩ := cons_of (n := 61) hs52; clear hs52
  obtain ⟨u53, l54, rfl, hs54⟩ := cons_of (n := 60) hs53; clear hs53
  obtain ⟨u54, l55, rfl, hs55⟩ := cons_of (n := 59) hs54; clear hs54
  obtain ⟨u55, l56, rfl, hs56⟩ := cons_of (n := 58) hs55; clear hs55
  obtain ⟨u56, l57, rfl, hs57⟩ := cons_of (n := 57) hs56; clear hs56
  obtain ⟨u57, l58, rfl, hs58⟩ := cons_of (n := 56) hs57; clear hs57
  obtain ⟨u58, l59, rfl, hs59⟩ := cons_of (n := 55) hs58; clear hs58
  obtain ⟨u59, l60, rfl, hs60⟩ := cons_of (n := 54) hs59; clear hs59
  obtain ⟨u60, l61, rfl, hs61⟩ := cons_of (n := 53) hs60; clear hs60
  obtain ⟨u61, l62, rfl, hs62⟩ := cons_of (n := 52) hs61; clear hs61
  obtain ⟨u62, l63, rfl, hs63⟩ := cons_of (n := 51) hs62; clear hs62
  obtain ⟨u63, l64, rfl, hs64⟩ := cons_of (n := 50) hs63; clear hs63
  obtain ⟨u64, l65, rfl, hs65⟩ := cons_of (n := 49) hs64; clear hs64
  obtain ⟨u65, l66, rfl, hs66⟩ := cons_of (n := 48) hs65; clear hs65
  obtain ⟨u66, l67, rfl, hs67⟩ := cons_of (n := 47) hs66; clear hs66
  obtain ⟨u67, l68, rfl, hs68⟩ := cons_of (n := 46) hs67; clear hs67
  obtain ⟨u68, l69, rfl, hs69⟩ := cons_of (n := 45) hs68; clear hs68
  obtain ⟨u69, l70, rfl, hs70⟩ := cons_of (n := 44) hs69; clear hs69
  obtain ⟨u70, l71, rfl, hs71⟩ := cons_of (n := 43) hs70; clear hs70
  obtain ⟨u71, l72, rfl, hs72⟩ := cons_of (n := 42) hs71; clear hs71
  obtain ⟨u72, l73, rfl, hs73⟩ := cons_of (n := 41) hs72; clear hs72
  obtain ⟨u73, l74, rfl, hs74⟩ := cons_of (n := 40) hs73; clear hs73
  obtain ⟨u74, l75, rfl, hs75⟩ := cons_of (n := 39) hs74; clear hs74
  obtain ⟨u75, l76, rfl, hs76⟩ := cons_of (n := 38) hs75; clear hs75
  obtain ⟨u76, l77, rfl, hs77⟩ := cons_of (n := 37) hs76; clear hs76
  obtain ⟨u77, l78, rfl, hs78⟩ := cons_of (n := 36) hs77; clear hs77
  obtain ⟨u78, l79, rfl, hs79⟩ := cons_of (n := 35) hs78; clear hs78
  obtain ⟨u79, l80, rfl, hs80⟩ := cons_of (n := 34) hs79; clear hs79
  obtain ⟨u80, l81, rfl, hs81⟩ := cons_of (n := 33) hs80; clear hs80
  obtain ⟨u81, l82, rfl, hs82⟩ := cons_of (n := 32) hs81; clear hs81
  obtain ⟨u82, l83, rfl, hs83⟩ := cons_of (n := 31) hs82; clear hs82
  obtain ⟨u83, l84, rfl, hs84⟩ := cons_of (n := 30) hs83; clear hs83
  obtain ⟨u84, l85, rfl, hs85⟩ := cons_of (n := 29) hs84; clear hs84
  obtain ⟨u85, l86, rfl, hs86⟩ := cons_of (n := 28) hs85; clear hs85
  obtain ⟨u86, l87, rfl, hs87⟩ := cons_of (n := 27) hs86; clear hs86
  obtain ⟨u87, l88, rfl, hs88⟩ := cons_of (n := 26) hs87; clear hs87
  obtain ⟨u88, l89, rfl, hs89⟩ := cons_of (n := 25) hs88; clear hs88
  obtain ⟨u89, l90, rfl, hs90⟩ := cons_of (n := 24) hs89; clear hs89
  obtain ⟨u90, l91, rfl, hs91⟩ := cons_of (n := 23) hs90; clear hs90
  obtain ⟨u91, l92, rfl, hs92⟩ := cons_of (n := 22) hs91; clear hs91
  obtain ⟨u92, l93, rfl, hs93⟩ := cons_of (n := 21) hs92; clear hs92
  obtain ⟨u93, l94, rfl, hs94⟩ := cons_of (n := 20) hs93; clear hs93
  obtain ⟨u94, l95, rfl, hs95⟩ := cons_of (n := 19) hs94; clear hs94
  obtain ⟨u95, l96, rfl, hs96⟩ := cons_of (n := 18) hs95; clear hs95
  obtain ⟨u96, l97, rfl, hs97⟩ := cons_of (n := 17) hs96; clear hs96
  obtain ⟨u97, l98, rfl, hs98⟩ := cons_of (n := 16) hs97; clear hs97
  obtain ⟨u98, l99, rfl, hs99⟩ := cons_of (n := 15) hs98; clear hs98
  obtain ⟨u99, l100, rfl, hs100⟩ := cons_of (n := 14) hs99; clear hs99
  obtain ⟨u100, l101, rfl, hs101⟩ := cons_of (n := 13) hs100; clear hs100
  obtain ⟨u101, l102, rfl, hs102⟩ := cons_of (n := 12) hs101; clear hs101
  obtain ⟨u102, l103, rfl, hs103⟩ := cons_of (n := 11) hs102; clear hs102
  obtain ⟨u103, l104, rfl, hs104⟩ := cons_of (n := 10) hs103; clear hs103
  obtain ⟨u104, l105, rfl, hs105⟩ := cons_of (n := 9) hs104; clear hs104
  obtain ⟨u105, l106, rfl, hs106⟩ := cons_of (n := 8) hs105; clear hs105
  obtain ⟨u106, l107, rfl, hs107⟩ := cons_of (n := 7) hs106; clear hs106
  obtain ⟨u107, l108, rfl, hs108⟩ := cons_of (n := 6) hs107; clear hs107
  obtain ⟨u108, l109, rfl, hs109⟩ := cons_of (n := 5) hs108; clear hs108
  obtain ⟨u109, l110, rfl, hs110⟩ := cons_of (n := 4) hs109; clear hs109
  obtain ⟨u110, l111, rfl, hs111⟩ := cons_of (n := 3) hs110; clear hs110
  obtain ⟨u111, l112, rfl, hs112⟩ := cons_of (n := 2) hs111; clear hs111
  obtain ⟨u112, l113, rfl, hs113⟩ := cons_of (n := 1) hs112; clear hs112
  obtain ⟨u113, l114, rfl, hs114⟩ := cons_of (n := 0) hs113; clear hs113
  obtain rfl := List.eq_nil_of_length_eq_zero hs114
  rfl
theorem lits_124 {l0 : List Value} (hs0 : l0.length = 124) : ∃ u : Nat → Value, l0 = [u 0, u 1, u 2, u 3, u 4, u 5, u 6, u 7, u 8, u 9, u 10, u 11, u 12, u 13, u 14, u 15, u 16, u 17, u 18, u 19, u 20, u 21, u 22, u 23, u 24, u 25, u 26, u 27, u 28, u 29, u 30, u 31, u 32, u 33, u 34, u 35, u 36, u 37, u 38, u 39, u 40, u 41, u 42, u 43, u 44, u 45, u 46, u 47, u 48, u 49, u 50, u 51, u 52, u 53, u 54, u 55, u 56, u 57, u 58, u 59, u 60, u 61, u 62, u 63, u 64, u 65, u 66, u 67, u 68, u 69, u 70, u 71, u 72, u 73, u 74, u 75, u 76, u 77, u 78, u 79, u 80, u 81, u 82, u 83, u 84, u 85, u 86, u 87, u 88, u 89, u 90, u 91, u 92, u 93, u 94, u 95, u 96, u 97, u 98, u 99, u 100, u 101, u 102, u 103, u 104, u 105, u 106, u 107, u 108, u 109, u 110, u 111, u 112, u 113, u 114, u 115, u 116, u 117, u 118, u 119, u 120, u 121, u 122, u 123] := by
  refine ⟨fun k => l0.getD k undef, ?_⟩
  obtain ⟨u0, l1, rfl, hs1⟩ := cons_of (n := 123) hs0; clear hs0
  obtain ⟨u1, l2, rfl, hs2⟩ := cons_of (n := 122) hs1; clear hs1
  obtain ⟨u2, l3, rfl, hs3⟩ := cons_of (n := 121) hs2; clear hs2
  obtain ⟨u3, l4, rfl, hs4⟩ := cons_of (n := 120) hs3; clear hs3
  obtain ⟨u4, l5, rfl, hs5⟩ := cons_of (n := 119) hs4; clear hs4
  obtain ⟨u5, l6, rfl, hs6⟩ := cons_of (n := 118) hs5; clear hs5
  obtain ⟨u6, l7, rfl, hs7⟩ := cons_of (n := 117) hs6; clear hs6
  obtain ⟨u7, l8, rfl, hs8⟩ := cons_of (n := 116) hs7; clear hs7
  obtain ⟨u8, l9, rfl, hs9⟩ := cons_of (n := 115) hs8; clear hs8
  obtain ⟨u9, l10, rfl, hs10⟩ := cons_of (n := 114) hs9; clear hs9
  obtain ⟨u10, l11, rfl, hs11⟩ := cons_of (n := 113) hs10; clear hs10
  obtain ⟨u11, l12, rfl, hs12⟩ := cons_of (n := 112) hs11; clear hs11
  obtain ⟨u12, l13, rfl, hs13⟩ := cons_of (n := 111) hs12; clear hs12
  obtain ⟨u13, l14, rfl, hs14⟩ := cons_of (n := 110) hs13; clear hs13
  obtain ⟨u14, l15, rfl, hs15⟩ := cons_of (n := 109) hs14; clear hs14
  obtain ⟨u15, l16, rfl, hs16⟩ := cons_of (n := 108) hs15; clear hs15
  obtain ⟨u16, l17, rfl, hs17⟩ := cons_of (n := 107) hs16; clear hs16
  obtain ⟨u17, l18, rfl, hs18⟩ := cons_of (n := 106) hs17; clear hs17
  obtain ⟨u18, l19, rfl, hs19⟩ := cons_of (n := 105) hs18; clear hs18
  obtain ⟨u19, l20, rfl, hs20⟩ := cons_of (n := 104) hs19; clear hs19
  obtain ⟨u20, l21, rfl, hs21⟩ := cons_of (n := 103) hs20; clear hs20
  obtain ⟨u21, l22, rfl, hs22⟩ := cons_of (n := 102) hs21; clear hs21
  obtain ⟨u22, l23, rfl, hs23⟩ := cons_of (n := 101) hs22; clear hs22
  obtain ⟨u23, l24, rfl, hs24⟩ := cons_of (n := 100) hs23; clear hs23
  obtain ⟨u24, l25, rfl, hs25⟩ := cons_of (n := 99) hs24; clear hs24
  obtain ⟨u25, l26, rfl, hs26⟩ := cons_of (n := 98) hs25; clear hs25
  obtain ⟨u26, l27, rfl, hs27⟩ := cons_of (n := 97) hs26; clear hs26
  obtain ⟨u27, l28, rfl, hs28⟩ := cons_of (n := 96) hs27; clear hs27
  obtain ⟨u28, l29, rfl, hs29⟩ := cons_of (n := 95) hs28; clear hs28
  obtain ⟨u29, l30, rfl, hs30⟩ := cons_of (n := 94) hs29; clear hs29
  obtain ⟨u30, l31, rfl, hs31⟩ := cons_of (n := 93) hs30; clear hs30
  obtain ⟨u31, l32, rfl, hs32⟩ := cons_of (n := 92) hs31; clear hs31
  obtain ⟨u32, l33, rfl, hs33⟩ := cons_of (n := 91) hs32; clear hs32
  obtain ⟨u33, l34, rfl, hs34⟩ := cons_of (n := 90) hs33; clear hs33
  obtain ⟨u34, l35, rfl, hs35⟩ := cons_of (n := 89) hs34; clear hs34
  obtain ⟨u35, l36, rfl, hs36⟩ := cons_of (n := 88) hs35; clear hs35
  obtain ⟨u36, l37, rfl, hs37⟩ := cons_of (n := 87) hs36; clear hs36
  obtain ⟨u37, l38, rfl, hs38⟩ := cons_of (n := 86) hs37; clear hs37
  obtain ⟨u38, l39, rfl, hs39⟩ := cons_of (n := 85) hs38; clear hs38
  obtain ⟨u39, l40, rfl, hs40⟩ := cons_of (n := 84) hs39; clear hs39
  obtain ⟨u40, l41, rfl, hs41⟩ := cons_of (n := 83) hs40; clear hs40
  obtain ⟨u41, l42, rfl, hs42⟩ := cons_of (n := 82) hs41; clear hs41
  obtain ⟨u42, l43, rfl, hs43⟩ := cons_of (n := 81) hs42; clear hs42
  obtain ⟨u43, l44, rfl, hs44⟩ := cons_of (n := 80) hs43; clear hs43
  obtain ⟨u44, l45, rfl, hs45⟩ := cons_of (n := 79) hs44; clear hs44
  obtain ⟨u45, l46, rfl, hs46⟩ := cons_of (n := 78) hs45; clear hs45
  obtain ⟨u46, l47, rfl, hs47⟩ := cons_of (n := 77) hs46; clear hs46
  obtain ⟨u47, l48, rfl, hs48⟩ := cons_of (n := 76) hs47; clear hs47
  obtain ⟨u48, l49, rfl, hs49⟩ := cons_of (n := 75) hs48; clear hs48
  obtain ⟨u49, l50, rfl, hs50⟩ := cons_of (n := 74) hs49; clear hs49
  obtain ⟨u50, l51, rfl, hs51⟩ := cons_of (n := 73) hs50; clear hs50
  obtain ⟨u51, l52, rfl, hs52⟩ := cons_of (n := 72) hs51; clear hs51
  obtain ⟨u52, l53, rfl, hs53⟩ := cons_of (n := 71) hs52; clear hs52
  obtain ⟨u53, l54, rfl, hs54⟩ := cons_of (n := 70) hs53; clear hs53
  obtain ⟨u54, l55, rfl, hs55⟩ := cons_of (n := 69) hs54; clear hs54
  obtain ⟨u55, l56, rfl, hs56⟩ := cons_of (n := 68) hs55; clear hs55
  obtain ⟨u56, l57, rfl, hs57⟩ := cons_of (n := 67) hs56; clear hs56
  obtain ⟨u57, l58, rfl, hs58⟩ := cons_of (n := 66) hs57; clear hs57
  obtain ⟨u58, l59, rfl, hs59⟩ := cons_of (n := 65) hs58; clear hs58
  obtain ⟨u59, l60, rfl, hs60⟩ := cons_of (n := 64) hs59; clear hs59
  obtain ⟨u60, l61, rfl, hs61⟩ := cons_of (n := 63) hs60; clear hs60
  obtain ⟨u61, l62, rfl, hs62⟩ := cons_of (n := 62) hs61; clear hs61
  obtain ⟨u62, l63, rfl, hs63⟩ := cons_of (n := 61) hs62; clear hs62
  obtain ⟨u63, l64, rfl, hs64⟩ := cons_of (n := 60) hs63; clear hs63
  obtain ⟨u64, l65, rfl, hs65⟩ := cons_of (n := 59) hs64; clear hs64
  obtain ⟨u65, l66, rfl, hs66⟩ := cons_of (n := 58) hs65; clear hs65
  obtain ⟨u66, l67, rfl, hs67⟩ := cons_of (n := 57) hs66; clear hs66
  obtain ⟨u67, l68, rfl, hs68⟩ := cons_of (n := 56) hs67; clear hs67
  obtain ⟨u68, l69, rfl, hs69⟩ := cons_of (n := 55) hs68; clear hs68
  obtain ⟨u69, l70, rfl, hs70⟩ := cons_of (n := 54) hs69; clear hs69
  obtain ⟨u70, l71, rfl, hs71⟩ := cons_of (n := 53) hs70; clear hs70
  obtain ⟨u71, l72, rfl, hs72⟩ := cons_of (n := 52) hs71; clear hs71
  obtain ⟨u72, l73, rfl, hs73⟩ := cons_of (n := 51) hs72; clear hs72
  obtain ⟨u73, l74, rfl, hs74⟩ := cons_of (n := 50) hs73; clear hs73
  obtain ⟨u74, l75, rfl, hs75⟩ := cons_of (n := 49) hs74; clear hs74
  obtain ⟨u75, l76, rfl, hs76⟩ := cons_of (n := 48) hs75; clear hs75
  obtain ⟨u76, l77, rfl, hs77⟩ := cons_of (n := 47) hs76; clear hs76
  obtain ⟨u77, l78, rfl, hs78⟩ := cons_of (n := 46) hs77; clear hs77
  obtain ⟨u78, l79, rfl, hs79⟩ := cons_of (n := 45) hs78; clear hs78
  obtain ⟨u79, l80, rfl, hs80⟩ := cons_of (n := 44) hs79; clear hs79
  obtain ⟨u80, l81, rfl, hs81⟩ := cons_of (n := 43) hs80; clear hs80
  obtain ⟨u81, l82, rfl, hs82⟩ := cons_of (n := 42) hs81; clear hs81
  obtain ⟨u82, l83, rfl, hs83⟩ := cons_of (n := 41) hs82; clear hs82
  obtain ⟨u83, l84, rfl, hs84⟩ := cons_of (n := 40) hs83; clear hs83
  obtain ⟨u84, l85, rfl, hs85⟩ := cons_of (n := 39) hs84; clear hs84
  obtain ⟨u85, l86, rfl, hs86⟩ := cons_of (n := 38) hs85; clear hs85
  obtain ⟨u86, l87, rfl, hs87⟩ := cons_of (n := 37) hs86; clear hs86
  obtain ⟨u87, l88, rfl, hs88⟩ := cons_of (n := 36) hs87; clear hs87
  obtain ⟨u88, l89, rfl, hs89⟩ := cons_of (n := 35) hs88; clear hs88
  obtain ⟨u89, l90, rfl, hs90⟩ := cons_of (n := 34) hs89; clear hs89
  obtain ⟨u90, l91, rfl, hs91⟩ := cons_of (n := 33) hs90; clear hs90
  obtain ⟨u91, l92, rfl, hs92⟩ := cons_of (n := 32) hs91; clear hs91
  obtain ⟨u92, l93, rfl, hs93⟩ := cons_of (n := 31) hs92; clear hs92
  obtain ⟨u93, l94, rfl, hs94⟩ := cons_of (n := 30) hs93; clear hs93
  obtain ⟨u94, l95, rfl, hs95⟩ := cons_of (n := 29) hs94; clear hs94
  obtain ⟨u95, l96, rfl, hs96⟩ := cons_of (n := 28) hs95; clear hs95
  obtain ⟨u96, l97, rfl, hs97⟩ := cons_of (n := 27) hs96; clear hs96
  obtain ⟨u97, l98, rfl, hs98⟩ := cons_of (n := 26) hs97; clear hs97
  obtain ⟨u98, l99, rfl, hs99⟩ := cons_of (n := 25) hs98; clear hs98
  obtain ⟨u99, l100, rfl, hs100⟩ := cons_of (n := 24) hs99; clear hs99
  obtain ⟨u100, l101, rfl, hs101⟩ := cons_of (n := 23) hs100; clear hs100
  obtain ⟨u101, l102, rfl, hs102⟩ := cons_of (n := 22) hs101; clear hs101
  obtain ⟨u102, l103, rfl, hs103⟩ := cons_of (n := 21) hs102; clear hs102
  obtain ⟨u103, l104, rfl, hs104⟩ := cons_of (n := 20) hs103; clear hs103
  obtain ⟨u104, l105, rfl, hs105⟩ := cons_of (n := 19) hs104; clear hs104
  obtain ⟨u105, l106, rfl, hs106⟩ := cons_of (n := 18) hs105; clear hs105
  obtain ⟨u106, l107, rfl, hs107⟩ := cons_of (n := 17) hs106; clear hs106
  obtain ⟨u107, l108, rfl, hs108⟩ := cons_of (n := 16) hs107; clear hs107
  obtain ⟨u108, l109, rfl, hs109⟩ := cons_of (n := 15) hs108; clear hs108
  obtain ⟨u109, l110, rfl, hs110⟩ := cons_of (n := 14) hs109; clear hs109
  obtain ⟨u110, l111, rfl, hs111⟩ := cons_of (n := 13) hs110; clear hs110
  obtain ⟨u111, l112, rfl, hs112⟩ := cons_of (n := 12) hs111; clear hs111
  obtain ⟨u112, l113, rfl, hs113⟩ := cons_of (n := 11) hs112; clear hs112
  obtain ⟨u113, l114, rfl, hs114⟩ := cons_of (n := 10) hs113; clear hs113
  obtain ⟨u114, l115, rfl, hs115⟩ := cons_of (n := 9) hs114; clear hs114
  obtain ⟨u115, l116, rfl, hs116⟩ := cons_of (n := 8) hs115; clear hs115
  obtain ⟨u116, l117, rfl, hs117⟩ := cons_of (n := 7) hs116; clear hs116
  obtain ⟨u117, l118, rfl, hs118⟩ := cons_of (n := 6) hs117; clear hs117
  obtain ⟨u118, l119, rfl, hs119⟩ := cons_of (n := 5) hs118; clear hs118
  obtain ⟨u119, l120, rfl, hs120⟩ := cons_of (n := 4) hs119; clear hs119
  obtain ⟨u120, l121, rfl, hs121⟩ := cons_of (n := 3) hs120; clear hs120
  obtain ⟨u121, l122, rfl, hs122⟩ := cons_of (n := 2) hs121; clear hs121
  obtain ⟨u122, l123, rfl, hs123⟩ := cons_of (n := 1) hs122; clear hs122
  obtain ⟨u123, l124, rfl, hs124⟩ := cons_of (n := 0) hs123; clear hs123
  obtain rfl := List.eq_nil_of_length_eq_zero hs124
  rfl
theorem lits_132 {l0 : List Value} (hs0 : l0.length = 132) : ∃ u : Nat → Value, l0 = [u 0, u 1, u 2, u 3, u 4, u 5, u 6, u 7, u 8, u 9, u 10, u 11, u 12, u 13, u 14, u 15, u 16, u 17, u 18, u 19, u 20, u 21, u 22, u 23, u 24, u 25, u 26, u 27, u 28, u 29, u 30, u 31, u 32, u 33, u 34, u 35, u 36, u 37, u 38, u 39, u 40, u 41, u 42, u 43, u 44, u 45, u 46, u 47, u 48, u 49, u 50, u 51, u 52, u 53, u 54, u 55, u 56, u 57, u 58, u 59, u 60, u 61, u 62, u 63, u 64, u 65, u 66, u 67, u 68, u 69, u 70, u 71, u 72, u 73, u 74, u 75, u 76, u 77, u 78, u 79, u 80, u 81, u 82, u 83, u 84, u 85, u 86, u 87, u 88, u 89, u 90, u 91, u 92, u 93, u 94, u 95, u 96, u 97, u 98, u 99, u 100, u 101, u 102, u 103, u 104, u 105, u 106, u 107, u 108, u 109, u 110, u 111, u 112, u 113, u 114, u 115, u 116, u 117, u 118, u 119, u 120, u 121, u 122, u 123, u 124, u 125, u 126, u 127, u 128, u 129, u 130, u 131] := by
  refine ⟨fun k => l0.getD k undef, ?_⟩
  obtain ⟨u0, l1, rfl, hs1⟩ := cons_of (n := 131) hs0; clear hs0
  obtain ⟨u1, l2, rfl, hs2⟩ := cons_of (n := 130) hs1; clear hs1
  obtain ⟨u2, l3, rfl, hs3⟩ := cons_of (n := 129) hs2; clear hs2
  obtain ⟨u3, l4, rfl, hs4⟩ := cons_of (n := 128) hs3; clear hs3
  obtain ⟨u4, l5, rfl, hs5⟩ := cons_of (n := 127) hs4; clear hs4
  obtain ⟨u5, l6, rfl, hs6⟩ := cons_of (n := 126) hs5; clear hs5
  obtain ⟨u6, l7, rfl, hs7⟩ := cons_of (n := 125) hs6; clear hs6
  obtain ⟨u7, l8, rfl, hs8⟩ := cons_of (n := 124) hs7; clear hs7
  obtain ⟨u8, l9, rfl, hs9⟩ := cons_of (n := 123) hs8; clear hs8
  obtain ⟨u9, l10, rfl, hs10⟩ := cons_of (n := 122) hs9; clear hs9
  obtain ⟨u10, l11, rfl, hs11⟩ := cons_of (n := 121) hs10; clear hs10
  obtain ⟨u11, l12, rfl, hs12⟩ := cons_of (n := 120) hs11; clear hs11
  obtain ⟨u12, l13, rfl, hs13⟩ := cons_of (n := 119) hs12; clear hs12
  obtain ⟨u13, l14, rfl, hs14⟩ := cons_of (n := 118) hs13; clear hs13
  obtain ⟨u14, l15, rfl, hs15⟩ := cons_of (n := 117) hs14; clear hs14
  obtain ⟨u15, l16, rfl, hs16⟩ := cons_of (n := 116) hs15; clear hs15
  obtain ⟨u16, l17, rfl, hs17⟩ := cons_of (n := 115) hs16; clear hs16
  obtain ⟨u17, l18, rfl, hs18⟩ := cons_of (n := 114) hs17; clear hs17
  obtain ⟨u18, l19, rfl, hs19⟩ := cons_of (n := 113) hs18; clear hs18
  obtain ⟨u19, l20, rfl, hs20⟩ := cons_of (n := 112) hs19; clear hs19
  obtain ⟨u20, l21, rfl, hs21⟩ := cons_of (n := 111) hs20; clear hs20
  obtain ⟨u21, l22, rfl, hs22⟩ := cons_of (n := 110) hs21; clear hs21
  obtain ⟨u22, l23, rfl, hs23⟩ := cons_of (n := 109) hs22; clear hs22
  obtain ⟨u23, l24, rfl, hs24⟩ := cons_of (n := 108) hs23; clear hs23
  obtain ⟨u24, l25, rfl, hs25⟩ := cons_of (n := 107) hs24; clear hs24
  obtain ⟨u25, l26, rfl, hs26⟩ := cons_of (n := 106) hs25; clear hs25
  obtain ⟨u26, l27, rfl, hs27⟩ := cons_of (n := 105) hs26; clear hs26
  obtain ⟨u27, l28, rfl, hs28⟩ := cons_of (n := 104) hs27; clear hs27
  obtain ⟨u28, l29, rfl, hs29⟩ := cons_of (n := 103) hs28; clear hs28
  obtain ⟨u29, l30, rfl, hs30⟩ := cons_of (n := 102) hs29; clear hs29
  obtain ⟨u30, l31, rfl, hs31⟩ := cons_of (n := 101) hs30; clear hs30
  obtain ⟨u31, l32, rfl, hs32⟩ := cons_of (n := 100) hs31; clear hs31
  obtain ⟨u32, l33, rfl, hs33⟩ := cons_of (n := 99) hs32; clear hs32
  obtain ⟨u33, l34, rfl, hs34⟩ := cons_of (n := 98) hs33; clear hs33
  obtain ⟨u34, l35, rfl, hs35⟩ := cons_of (n := 97) hs34; clear hs34
  obtain ⟨u35, l36, rfl, hs36⟩ := cons_of (n := 96) hs35; clear hs35
  obtain ⟨u36, l37, rfl, hs37⟩ := cons_of (n := 95) hs36; clear hs36
  obtain ⟨u37, l38, rfl, hs38⟩ := cons_of (n := 94) hs37; clear hs37
  obtain ⟨u38, l39, rfl, hs39⟩ := cons_of (n := 93) hs38; clear hs38
  obtain ⟨u39, l40, rfl, hs40⟩ := cons_of (n := 92) hs39; clear hs39
  obtain ⟨u40, l41, rfl, hs41⟩ := cons_of (n := 91) hs40; clear hs40
  obtain ⟨u41, l42, rfl, hs42⟩ := cons_of (n := 90) hs41; clear hs41
  obtain ⟨u42, l43, rfl, hs43⟩ := cons_of (n := 89) hs42; clear hs42
  obtain ⟨u43, l44, rfl, hs44⟩ := cons_of (n := 88) hs43; clear hs43
  obtain ⟨u44, l45, rfl, hs45⟩ := cons_of (n := 87) hs44; clear hs44
  obtain ⟨u45, l46, rfl, hs46⟩ := cons_of (n := 86) hs45; clear hs45
  obtain ⟨u46, l47, rfl, hs47⟩ := cons_of (n := 85) hs46; clear hs46
  obtain ⟨u47, l48, rfl, hs48⟩ := cons_of (n := 84) hs47; clear hs47
  obtain ⟨u48, l49, rfl, hs49⟩ := cons_of (n := 83) hs48; clear hs48
  obtain ⟨u49, l50, rfl, hs50⟩ := cons_of (n := 82) hs49; clear hs49
  obtain ⟨u50, l51, rfl, hs51⟩ := cons_of (n := 81) hs50; clear hs50
  obtain ⟨u51, l52, rfl, hs52⟩ := cons_of (n := 80) hs51; clear hs51
  obtain ⟨u52, l53, rfl, hs53⟩ := cons_of (n := 79) hs52; clear hs52
  obtain ⟨u53, l54, rfl, hs54⟩ := cons_of (n := 78) hs53; clear hs53
  obtain ⟨u54, l55, rfl, hs55⟩ := cons_of (n := 77) hs54; clear hs54
  obtain ⟨u55, l56, rfl, hs56⟩ := cons_of (n := 76) hs55; clear hs55
  obtain ⟨u56, l57, rfl, hs57⟩ := cons_of (n := 75) hs56; clear hs56
  obtain ⟨u57, l58, rfl, hs58⟩ := cons_of (n := 74) hs57; clear hs57
  obtain ⟨u58, l59, rfl, hs59⟩ := cons_of (n := 73) hs58; clear hs58
  obtain ⟨u59, l60, rfl, hs60⟩ := cons_of (n := 72) hs59; clear hs59
  obtain ⟨u60, l61, rfl, hs61⟩ := cons_of (n := 71) hs60; clear hs60
  obtain ⟨u61, l62, rfl, hs62⟩ := cons_of (n := 70) hs61; clear hs61
  obtain ⟨u62, l63, rfl, hs63⟩ := cons_of (n := 69) hs62; clear hs62
  obtain ⟨u63, l64, rfl, hs64⟩ := cons_of (n := 68) hs63; clear hs63
  obtain ⟨u64, l65, rfl, hs65⟩ := cons_of (n := 67) hs64; clear hs64
  obtain ⟨u65, l66, rfl, hs66⟩ := cons_of (n := 66) hs65; clear hs65
  obtain ⟨u66, l67, rfl, hs67⟩ := cons_of (n := 65) hs66; clear hs66
  obtain ⟨u67, l68, rfl, hs68⟩ := cons_of (n := 64) hs67; clear hs67
  obtain ⟨u68, l69, rfl, hs69⟩ := cons_of (n := 63) hs68; clear hs68
  obtain ⟨u69, l70, rfl, hs70⟩ := cons_of (n := 62) hs69; clear hs69
  obtain ⟨u70, l71, rfl, hs71⟩ := cons_of (n := 61) hs70; clear hs70
  obtain ⟨u71, l72, rfl, hs72⟩ := cons_of (n := 60) hs71; clear hs71
  obtain ⟨u72, l73, rfl, hs73⟩ := cons_of (n := 59) hs72; clear hs72
  obtain ⟨u73, l74, rfl, hs74⟩ := cons_of (n := 58) hs73; clear hs73
  obtain ⟨u74, l75, rfl, hs75⟩ := cons_of (n := 57) hs74; clear hs74
  obtain ⟨u75, l76, rfl, hs76⟩ := cons_of (n := 56) hs75; clear hs75
  obtain ⟨u76, l77, rfl, hs77⟩ := cons_of (n := 55) hs76; clear hs76
  obtain ⟨u77, l78, rfl, hs78⟩ := cons_of (n := 54) hs77; clear hs77
  obtain ⟨u78, l79, rfl, hs79⟩ := cons_of (n := 53) hs78; clear hs78
  obtain ⟨u79, l80, rfl, hs80⟩ := cons_of (n := 52) hs79; clear hs79
  obtain ⟨u80, l81, rfl, hs81⟩ := cons_of (n := 51) hs80; clear hs80
  obtain ⟨u81, l82, rfl, hs82⟩ := cons_of (n := 50) hs81; clear hs81
  obtain ⟨u82, l83, rfl, hs83⟩ := cons_of (n := 49) hs82; clear hs82
  obtain ⟨u83, l84, rfl, hs84⟩ := cons_of (n := 48) hs83; clear hs83
  obtain ⟨u84, l85, rfl, hs85⟩ := cons_of (n := 47) hs84; clear hs84
  obtain ⟨u85, l86, rfl, hs86⟩ := cons_of (n := 46) hs85; clear hs85
  obtain ⟨u86, l87, rfl, hs87⟩ := cons_of (n := 45) hs86; clear hs86
  obtain ⟨u87, l88, rfl, hs88⟩ := cons_of (n := 44) hs87; clear hs87
  obtain ⟨u88, l89, rfl, hs89⟩ := cons_of (n := 43) hs88; clear hs88
  obtain ⟨u89, l90, rfl, hs90⟩ := cons_of (n := 42) hs89; clear hs89
  obtain ⟨u90, l91, rfl, hs91⟩ := cons_of (n := 41) hs90; clear hs90
  obtain ⟨u91, l92, rfl, hs92⟩ := cons_of (n := 40) hs91; clear hs91
  obtain ⟨u92, l93, rfl, hs93⟩ := cons_of (n := 39) hs92; clear hs92
  obtain ⟨u93, l94, rfl, hs94⟩ := cons_of (n := 38) hs93; clear hs93
  obtain ⟨u94, l95, rfl, hs95⟩ := cons_of (n := 37) hs94; clear hs94
  obtain ⟨u95, l96, rfl, hs96⟩ := cons_of (n := 36) hs95; clear hs95
  obtain ⟨u96, l97, rfl, hs97⟩ := cons_of (n := 35) hs96; clear hs96
  obtain ⟨u97, l98, rfl, hs98⟩ := cons_of (n := 34) hs97; clear hs97
  obtain ⟨u98, l99, rfl, hs99⟩ := cons_of (n := 33) hs98; clear hs98
  obtain ⟨u99, l100, rfl, hs100⟩ := cons_of (n := 32) hs99; clear hs99
  obtain ⟨u100, l101, rfl, hs101⟩ := cons_of (n := 31) hs100; clear hs100
  obtain ⟨u101, l102, rfl, hs102⟩ := cons_of (n := 30) hs101; clear hs101
  obtain ⟨u102, l103, rfl, hs103⟩ := cons_of (n := 29) hs102; clear hs102
  obtain ⟨u103, l104, rfl, hs104⟩ := cons_of (n := 28) hs103; clear hs103
  obtain ⟨u104, l105, rfl, hs105⟩ := cons_of (n := 27) hs104; clear hs104
  obtain ⟨u105, l106, rfl, hs106⟩ := cons_of (n := 26) hs105; clear hs105
  obtain ⟨u106, l107, rfl, hs107⟩ := cons_of (n := 25) hs106; clear hs106
  obtain ⟨u107, l108, rfl, hs108⟩ := cons_of (n := 24) hs107; clear hs107
  obtain ⟨u108, l109, rfl, hs109⟩ := cons_of (n := 23) hs108; clear hs108
  obtain ⟨u109, l110, rfl, hs110⟩ := cons_of (n := 22) hs109; clear hs109
  obtain ⟨u110, l111, rfl, hs111⟩ := cons_of (n := 21) hs110; clear hs110
  obtain ⟨u111, l112, rfl, hs112⟩ := cons_of (n := 20) hs111; clear hs111
  obtain ⟨u112, l113, rfl, hs113⟩ := cons_of (n := 19) hs112; clear hs112
  obtain ⟨u113, l114, rfl, hs114⟩ := cons_of (n := 18) hs113; clear hs113
  obtain ⟨u114, l115, rfl, hs115⟩ := cons_of (n := 17) hs114; clear hs114
  obtain ⟨u115, l116, rfl, hs116⟩ := cons_of (n := 16) hs115; clear hs115
  obtain ⟨u116, l117, rfl, hs117⟩ := cons_of (n := 15) hs116; clear hs116
  obtain ⟨u117, l118, rfl, hs118⟩ := cons_of (n := 14) hs117; clear hs117
  obtain ⟨u118, l119, rfl, hs119⟩ := cons_of (n := 13) hs118; clear hs118
  obtain ⟨u119, l120, rfl, hs120⟩ := cons_of (n := 12) hs119; clear hs119
  obtain ⟨u120, l121, rfl, hs121⟩ := cons_of (n := 11) hs120; clear hs120
  obtain ⟨u121, l122, rfl, hs122⟩ := cons_of (n := 10) hs121; clear hs121
  obtain ⟨u122, l123, rfl, hs123⟩ := cons_of (n := 9) hs122; clear hs122
  obtain ⟨u123, l124, rfl, hs124⟩ := cons_of (n := 8) hs123; clear hs123
  obtain ⟨u124, l125, rfl, hs125⟩ := cons_of (n := 7) hs124; clear hs124
  obtain ⟨u125, l126, rfl, hs126⟩ := cons_of (n := 6) hs125; clear hs125
  obtain ⟨u126, l127, rfl, hs127⟩ := cons_of (n := 5) hs126; clear hs126
  obtain ⟨u127, l128, rfl, hs128⟩ := cons_of (n := 4) hs127; clear hs127
  obtain ⟨u128, l129, rfl, hs129⟩ := cons_of (n := 3) hs128; clear hs128
  obtain ⟨u129, l130, rfl, hs130⟩ := cons_of (n := 2) hs129; clear hs129
  obtain ⟨u130, l131, rfl, hs131⟩ := cons_of (n := 1) hs130; clear hs130
  obtain ⟨u131, l132, rfl, hs132⟩ := cons_of (n := 0) hs131; clear hs131
  obtain rfl := List.eq_nil_of_length_eq_zero hs132
  rfl
end
section
open Go.RowKit

set_option maxRecDepth 100000 in
set_option maxHeartbeats 1000000 in
theorem few3_is (s : Bool) (A B : Option Addr) (c d : Nat) (xs ys xs' ys' : List Nat) (w : World) (hc : xs.length ≤ c) (hc' : ys.length ≤ d) (hx : few xs = xs') (hy : few ys = ys') :
    Calls Try.prog 11 #[.agg #[.bool s, .slice A xs.length c, .slice B ys.length d]] w (fun e w' => e = .returned (.agg #[.bool s, .slice A xs'.length c, .slice B ys'.length d]) ∧ Below w.heap.size w w') := by
  obtain ⟨n, hn⟩ : ∃ n, n = (few xs).length := ⟨_, rfl⟩
  obtain ⟨m, hm⟩ : ∃ m, m = (few ys).length := ⟨_, rfl⟩
  have hn2 := few_len xs
  rw [← hn] at hn2
  have hm2 := few_len ys
  rw [← hm] at hm2
  have hmin1 : ∀ W, (Builtin.min_ #[3, 3] 3 #[.int .i64 (xs.length : Int), .int .i64 18]).run Try.prog W = .ok (.int .i64 (n : Int)) W := fun W => by rw [run_min_int2, hn2]; congr 2; omega
  have hmin2 : ∀ W, (Builtin.min_ #[3, 3] 3 #[.int .i64 (ys.length : Int), .int .i64 18]).run Try.prog W = .ok (.int .i64 (m : Int)) W := fun W => by rw [run_min_int2, hm2]; congr 2; omega
  obtain ⟨i0, hi, hz0, hz1, hz2⟩ := info_parts info_u32
  have hcut1 := fun W => run_cut_to (P := Try.prog) 23 80 i0 (by kernel_rfl) hi A xs.length c n (by omega) W
  have hcut2 := fun W => run_cut_to (P := Try.prog) 23 80 i0 (by kernel_rfl) hi B ys.length d m (by omega) W
  rw [hx] at hn
  rw [hy] at hm
  have HN := Lib.hid (And.intro hn (And.intro hm (And.intro hn2 (And.intro hm2 (And.intro hi (And.intro hx hy)))))); clear hn hm hn2 hm2 hi hx hy
  obtain ⟨wa, hwa⟩ : ∃ wa, wa = (w.alloc (.cells #[.bool s, .slice A xs.length c, .slice B ys.length d] 25)).alloc (.cells #[.bool false, .slice none 0 0, .slice none 0 0] 25) := ⟨_, rfl⟩
  have hbl : Below w.heap.size w wa := by rw [hwa]; exact bel_alloc (bel_alloc (bel_refl _) _) _
  have CX : Blk wa (w.heap.size) 25 #[.bool s, .slice A xs.length c, .slice B ys.length d] := by
    have hz := Blk.new (w) 25 #[.bool s, .slice A xs.length c, .slice B ys.length d]
    rw [hwa]
    exact (hz.alloc _)
  have RES : Blk wa (w.heap.size + 1) 25 #[.bool false, .slice none 0 0, .slice none 0 0] := by
    have hz := Blk.new (w.alloc (.cells #[.bool s, .slice A xs.length c, .slice B ys.length d] 25)) 25 #[.bool false, .slice none 0 0, .slice none 0 0]
    rw [World.size_alloc] at hz
    rw [hwa]
    exact hz
  have HW := Lib.hid hbl; clear hbl
  replace CX := Lib.hid CX
  replace RES := Lib.hid RES
  go_enter Try.func11, Try.ntmps11
  go_wp2_with fail
  rw [← hwa]
  clear hwa
  refine wp_region_typed 17 (TOf [VIs (.pointer (some ⟨w.heap.size, 0, none⟩)),
      VIs (.bool s),
      VIs (.pointer (some ⟨w.heap.size, 1, none⟩)),
      VIs (.slice A xs.length c),
      VIs (.pointer (some ⟨w.heap.size, 1, none⟩)),
      VIs (.slice A xs.length c),
      VIs (.int .i64 (xs.length : Int)),
      VIs (.int .i64 (n : Int)),
      VIs (.slice A n c),
      VIs (.pointer (some ⟨w.heap.size, 2, none⟩)),
      VIs (.slice B ys.length d),
      VIs (.pointer (some ⟨w.heap.size, 2, none⟩)),
      VIs (.slice B ys.length d),
      VIs (.int .i64 (ys.length : Int)),
      VIs (.int .i64 (m : Int)),
      VIs (.slice B m d),
      VIs (.agg #[.bool s, .slice A n c, .slice B m d])]) (by kernel_rfl) (by kernel_rfl) (by kernel_rfl) (LiftAll.at_ (.cons (VIs.lift _) (.cons (VIs.lift _) (.cons (VIs.lift _) (.cons (VIs.lift _) (.cons (VIs.lift _) (.cons (VIs.lift _) (.cons (VIs.lift _) (.cons (VIs.lift _) (.cons (VIs.lift _) (.cons (VIs.lift _) (.cons (VIs.lift _) (.cons (VIs.lift _) (.cons (VIs.lift _) (.cons (VIs.lift _) (.cons (VIs.lift _) (.cons (VIs.lift _) (.cons (VIs.lift _) .nil)))))))))))))))))) (steps_all (steps_cons ?_ (steps_cons ?_ (steps_cons ?_ (steps_cons ?_ (steps_cons ?_ (steps_cons ?_ (steps_cons ?_ (steps_cons ?_ (steps_cons ?_ (steps_cons ?_ (steps_cons ?_ (steps_cons ?_ (steps_cons ?_ (steps_cons ?_ (steps_cons ?_ (steps_cons ?_ (steps_cons ?_ steps_zero)))))))))))))))))) ?fin
  · intro a0 w9 K9 hF hB hK hC
    have b1 := hF.base (k := 1) (v := .pointer (some ⟨w.heap.size, 0, none⟩)) (by kernel_rfl) rfl
    clear hF hB hK
    go_simp
    exact hC _ _ (bel_refl _) fun _ _ => rfl
  · intro a0 w9 K9 hF hB hK hC
    obtain ⟨v3, e3, z3⟩ := dep hK 0 (g := .data) (j := 0) (k := 3) rfl rfl rfl
    have z3 : v3 = .pointer (some ⟨w.heap.size, 0, none⟩) := z3
    subst z3
    have x9 : w9.cell? ⟨w.heap.size, 0, none⟩ = some (.bool s) := (CX.out.below hB CX.out.lt).cell 0
    clear hF hB hK
    go_simp
    exact hC _ _ (bel_refl _) fun _ _ => rfl
  · intro a0 w9 K9 hF hB hK hC
    have b1 := hF.base (k := 1) (v := .pointer (some ⟨w.heap.size, 0, none⟩)) (by kernel_rfl) rfl
    clear hF hB hK
    go_simp
    exact hC _ _ (bel_refl _) fun _ _ => rfl
  · intro a0 w9 K9 hF hB hK hC
    obtain ⟨v5, e5, z5⟩ := dep hK 0 (g := .data) (j := 2) (k := 5) rfl rfl rfl
    have z5 : v5 = .pointer (some ⟨w.heap.size, 1, none⟩) := z5
    subst z5
    have x9 : w9.cell? ⟨w.heap.size, 1, none⟩ = some (.slice A xs.length c) := (CX.out.below hB CX.out.lt).cell 1
    clear hF hB hK
    go_simp
    exact hC _ _ (bel_refl _) fun _ _ => rfl
  · intro a0 w9 K9 hF hB hK hC
    have b1 := hF.base (k := 1) (v := .pointer (some ⟨w.heap.size, 0, none⟩)) (by kernel_rfl) rfl
    clear hF hB hK
    go_simp
    exact hC _ _ (bel_refl _) fun _ _ => rfl
  · intro a0 w9 K9 hF hB hK hC
    obtain ⟨v7, e7, z7⟩ := dep hK 0 (g := .data) (j := 4) (k := 7) rfl rfl rfl
    have z7 : v7 = .pointer (some ⟨w.heap.size, 1, none⟩) := z7
    subst z7
    have x9 : w9.cell? ⟨w.heap.size, 1, none⟩ = some (.slice A xs.length c) := (CX.out.below hB CX.out.lt).cell 1
    clear hF hB hK
    go_simp
    exact hC _ _ (bel_refl _) fun _ _ => rfl
  · intro a0 w9 K9 hF hB hK hC
    obtain ⟨v8, e8, z8⟩ := dep hK 0 (g := .data) (j := 5) (k := 8) rfl rfl rfl
    have z8 : v8 = .slice A xs.length c := z8
    subst z8
    have HB9 := Lib.hid hB
    clear hF hB hK
    go_simp
    exact hC _ _ (bel_refl _) fun _ _ => rfl
  · intro a0 w9 K9 hF hB hK hC
    obtain ⟨v9, e9, z9⟩ := dep hK 0 (g := .data) (j := 6) (k := 9) rfl rfl rfl
    have z9 : v9 = .int .i64 (xs.length : Int) := z9
    subst z9
    have HB9 := Lib.hid hB
    clear hF hB hK
    go_simp
    exact hC _ _ (bel_refl _) fun _ _ => rfl
  · intro a0 w9 K9 hF hB hK hC
    obtain ⟨v6, e6, z6⟩ := dep hK 0 (g := .data) (j := 3) (k := 6) rfl rfl rfl
    have z6 : v6 = .slice A xs.length c := z6
    subst z6
    obtain ⟨v10, e10, z10⟩ := dep hK 1 (g := .data) (j := 7) (k := 10) rfl rfl rfl
    have z10 : v10 = .int .i64 (n : Int) := z10
    subst z10
    have HB9 := Lib.hid hB
    clear hF hB hK
    go_simp
    exact hC _ _ (bel_refl _) fun _ _ => rfl
  · intro a0 w9 K9 hF hB hK hC
    have b1 := hF.base (k := 1) (v := .pointer (some ⟨w.heap.size, 0, none⟩)) (by kernel_rfl) rfl
    clear hF hB hK
    go_simp
    exact hC _ _ (bel_refl _) fun _ _ => rfl
  · intro a0 w9 K9 hF hB hK hC
    obtain ⟨v12, e12, z12⟩ := dep hK 0 (g := .data) (j := 9) (k := 12) rfl rfl rfl
    have z12 : v12 = .pointer (some ⟨w.heap.size, 2, none⟩) := z12
    subst z12
    have x9 : w9.cell? ⟨w.heap.size, 2, none⟩ = some (.slice B ys.length d) := (CX.out.below hB CX.out.lt).cell 2
    clear hF hB hK
    go_simp
    exact hC _ _ (bel_refl _) fun _ _ => rfl
  · intro a0 w9 K9 hF hB hK hC
    have b1 := hF.base (k := 1) (v := .pointer (some ⟨w.heap.size, 0, none⟩)) (by kernel_rfl) rfl
    clear hF hB hK
    go_simp
    exact hC _ _ (bel_refl _) fun _ _ => rfl
  · intro a0 w9 K9 hF hB hK hC
    obtain ⟨v14, e14, z14⟩ := dep hK 0 (g := .data) (j := 11) (k := 14) rfl rfl rfl
    have z14 : v14 = .pointer (some ⟨w.heap.size, 2, none⟩) := z14
    subst z14
    have x9 : w9.cell? ⟨w.heap.size, 2, none⟩ = some (.slice B ys.length d) := (CX.out.below hB CX.out.lt).cell 2
    clear hF hB hK
    go_simp
    exact hC _ _ (bel_refl _) fun _ _ => rfl
  · intro a0 w9 K9 hF hB hK hC
    obtain ⟨v15, e15, z15⟩ := dep hK 0 (g := .data) (j := 12) (k := 15) rfl rfl rfl
    have z15 : v15 = .slice B ys.length d := z15
    subst z15
    have HB9 := Lib.hid hB
    clear hF hB hK
    go_simp
    exact hC _ _ (bel_refl _) fun _ _ => rfl
  · intro a0 w9 K9 hF hB hK hC
    obtain ⟨v16, e16, z16⟩ := dep hK 0 (g := .data) (j := 13) (k := 16) rfl rfl rfl
    have z16 : v16 = .int .i64 (ys.length : Int) := z16
    subst z16
    have HB9 := Lib.hid hB
    clear hF hB hK
    go_simp
    exact hC _ _ (bel_refl _) fun _ _ => rfl
  · intro a0 w9 K9 hF hB hK hC
    obtain ⟨v13, e13, z13⟩ := dep hK 0 (g := .data) (j := 10) (k := 13) rfl rfl rfl
    have z13 : v13 = .slice B ys.length d := z13
    subst z13
    obtain ⟨v17, e17, z17⟩ := dep hK 1 (g := .data) (j := 14) (k := 17) rfl rfl rfl
    have z17 : v17 = .int .i64 (m : Int) := z17
    subst z17
    have HB9 := Lib.hid hB
    clear hF hB hK
    go_simp
    exact hC _ _ (bel_refl _) fun _ _ => rfl
  · intro a0 w9 K9 hF hB hK hC
    obtain ⟨v4, e4, z4⟩ := dep hK 0 (g := .data) (j := 1) (k := 4) rfl rfl rfl
    have z4 : v4 = .bool s := z4
    subst z4
    obtain ⟨v11, e11, z11⟩ := dep hK 1 (g := .data) (j := 8) (k := 11) rfl rfl rfl
    have z11 : v11 = .slice A n c := z11
    subst z11
    obtain ⟨v18, e18, z18⟩ := dep hK 2 (g := .data) (j := 15) (k := 18) rfl rfl rfl
    have z18 : v18 = .slice B m d := z18
    subst z18
    have HB9 := Lib.hid hB
    clear hF hB hK
    go_simp
    exact hC _ _ (bel_refl _) fun _ _ => rfl
  case fin =>
    intro a0 w9 hF hB hK
    have b1 := hF.base (k := 1) (v := .pointer (some ⟨w.heap.size, 0, none⟩)) (by kernel_rfl) rfl
    have b2 := hF.base (k := 2) (v := .pointer (some ⟨w.heap.size + 1, 0, none⟩)) (by kernel_rfl) rfl
    have hsz := hF.size
    have hdf := hF.defers
    clear hF
    obtain ⟨v19, e19, z19⟩ := known hK 16 (k := 19) (by decide) rfl
    have z19 : v19 = .agg #[.bool s, .slice A n c, .slice B m d] := z19
    subst z19
    clear hK
    obtain ⟨⟨l0⟩, df⟩ := a0
    have hs0 : l0.length = 20 := hsz
    clear hsz
    replace hdf : df = _ := hdf
    subst hdf
    obtain ⟨u, rfl⟩ := lits_20 hs0
    clear hs0
    have q1 : u 1 = _ := Option.some.inj b1
    clear b1
    have q2 : u 2 = _ := Option.some.inj b2
    clear b2
    have q19 : u 19 = _ := Option.some.inj e19
    clear e19
    rw [q1, q2, q19]
    clear q1 q2 q19
    have hbl := hB; clear hB
    replace CX := Lib.hid (CX.out.below hbl CX.out.lt)
    replace RES := Lib.hid (RES.out.below hbl RES.out.lt)
    replace HW := Lib.hid (bel_trans HW.out hbl); clear hbl
    simp only [List.drop_succ_cons, List.drop_zero]
    have d0 : w9.cell? ⟨w.heap.size + 1, 0, none⟩ = some (.bool false) := RES.out.cell 0
    have f0 : w9.frozen? ⟨w.heap.size + 1, 0, none⟩ = false := RES.out.frozen 0
    have d1 : w9.cell? ⟨w.heap.size + 1, 1, none⟩ = some (.slice none 0 0) := RES.out.cell 1
    have f1 : w9.frozen? ⟨w.heap.size + 1, 1, none⟩ = false := RES.out.frozen 1
    have d2 : w9.cell? ⟨w.heap.size + 1, 2, none⟩ = some (.slice none 0 0) := RES.out.cell 2
    have f2 : w9.frozen? ⟨w.heap.size + 1, 2, none⟩ = false := RES.out.frozen 2
    have D := Lib.hid (And.intro (RES.out.put3 (.bool s) (.slice A n c) (.slice B m d)) (bel_set3 (g := w.heap.size + 1) HW.out (by omega) (.bool s) (.slice A n c) (.slice B m d)))
    go_wp2
    refine bodyPost_ret (v := .agg #[.bool s, .slice A n c, .slice B m d]) ?hr rfl ?hR
    case hR => exact ⟨by rw [HN.out.1, HN.out.2.1], D.out.2⟩
    case hr => exact results_cell_row rfl _ _ (w.heap.size + 1) 25 _ (0, 0) _ rfl D.out.1 Try.underlying25 rfl (by kernel_rfl)

theorem RdL.set1 {w : World} {g : Nat} {t : TypeId} {s : Bool} {A B : Option Addr} {m m' c c' : Nat} {E : Option Addr} {xs : List Nat} (hB : Blk w g t #[.bool s, .slice A m c, .slice B m' c']) (h : RdL w E xs) (x : Value) :
    RdL (w.setCell ⟨g, 0, none⟩ x) E xs := by
  intro hx
  obtain ⟨b, off, e, hb, hbg, hc⟩ := RdL.other hB h hx
  refine ⟨b, off, e, by simpa using hb, fun k hk => ?_⟩
  rw [cell_far hbg]
  exact hc k hk
def RetUH (v : Nat) (w : World) (e : Ending) (w' : World) : Prop := e = .returned (.int .u64 (v : Int)) ∧ Below w.heap.size w w'
theorem high3_any {sz : Int} {p q t H : Nat} (hf : Fm sz p q t) (w : World) (hH : H = 2 ^ (sz.toNat - 1)) : Calls Try.prog 19 #[.int .i64 sz] w (RetUH H w) := by
  subst hH
  rcases hf with ⟨rfl, rfl, rfl, rfl⟩ | ⟨rfl, rfl, rfl, rfl⟩
  · go_enter Try.func19, Try.ntmps19
    go_wp2
    go_ret
    exact ⟨rfl, bel_refl _⟩
  · go_enter Try.func19, Try.ntmps19
    go_wp2
    go_ret
    exact ⟨rfl, bel_refl _⟩
theorem code_zero (p q D : Nat) (hD : 0 < D) : Code p q 0 D 0 true := by
  have h1 := V_succ p 0
  rw [V_zero] at h1
  refine ⟨0, by rw [V_zero]; omega, ?_, ?_, ?_⟩
  · rw [Nat.zero_mul]; exact Nat.mul_pos h1 hD
  · unfold upB
    rw [V_zero, decide_eq_false (show ¬ 0 * D + V p (0 + 1) * D < 2 * (0 * 2 ^ q) by omega), decide_eq_false (show ¬ 0 % 2 = 1 by decide)]
    simp
  · rw [V_zero]; simp
theorem rbits_right (s : Bool) (A B : Option Addr) (c d : Nat) (n e : Nat) (sz : Int) (p q t : Nat) (w : World) (h : RdL w A (limbs n)) (h' : RdL w B (limbs e)) (hc : (limbs n).length ≤ c) (hc' : (limbs e).length ≤ d) (hn : n < Top) (he : e < Top) (hr : QR ⟨s, n, e⟩) (hf : Fm sz p q t) {cc : Nat} {ex : Bool} (hC : Code p q n e cc ex) :
    Calls Try.prog 12 #[.agg #[.bool s, .slice A (limbs n).length c, .slice B (limbs e).length d], .int .i64 sz] w (RetCode s sz p q t cc ex w) := by
  have hr2 := (rightB_q (s := s) hn he).2 hr
  by_cases h0 : n = 0
  · subst h0
    have hD : 0 < e := Nat.pos_of_ne_zero hr.den
    obtain ⟨rfl, rfl⟩ := (code_zero p q e hD).uniq hC hD
    refine (rbits_zero s A B c d 0 e sz p q t w h h' hc hc' hn he hr2 hf rfl).mono ?_
    rintro E w' ⟨rfl, hb⟩
    refine RetCode.fit ?_ (by simp) hb
    have : 0 < 2 ^ (p - 1) := Nat.pow_pos (by decide)
    have := Nat.mul_pos (show 0 < t + q + 2 by omega) this
    omega
  · exact rbits_code s A B c d n e sz p q t w h h' hc hc' hn he hr2 hf h0 hC
theorem rbits_over (s : Bool) (A B : Option Addr) (c d : Nat) (n e : Nat) (sz : Int) (p q t : Nat) (w : World) (h : RdL w A (limbs n)) (h' : RdL w B (limbs e)) (hc : (limbs n).length ≤ c) (hc' : (limbs e).length ≤ d) (hn : n < Top) (he : e < Top) (hr : QR ⟨s, n, e⟩) (hf : Fm sz p q t) {cc : Nat} {ex : Bool} (hC : Code p q n e cc ex) (ho : (t + q + 2) * 2 ^ (p - 1) ≤ cc) :
    Calls Try.prog 12 #[.agg #[.bool s, .slice A (limbs n).length c, .slice B (limbs e).length d], .int .i64 sz] w (RetBits 0 false 2 w) := by
  refine (rbits_right s A B c d n e sz p q t w h h' hc hc' hn he hr hf hC).mono ?_
  intro E w' h2
  unfold RetCode at h2
  rwa [if_pos ho, if_pos ho, if_pos ho] at h2
/-- Bits with their sign. -/
def sgn (s : Bool) (sz : Int) (cc : Nat) : Nat := if s = true ∧ cc ≠ 0 then cc + 2 ^ (sz.toNat - 1) else cc
theorem rbits_fit {U : Nat} (s : Bool) (A B : Option Addr) (c d : Nat) (n e : Nat) (sz : Int) (p q t : Nat) (w : World) (h : RdL w A (limbs n)) (h' : RdL w B (limbs e)) (hc : (limbs n).length ≤ c) (hc' : (limbs e).length ≤ d) (hn : n < Top) (he : e < Top) (hr : QR ⟨s, n, e⟩) (hf : Fm sz p q t) {cc : Nat} {ex : Bool} (hC : Code p q n e cc ex) (ho : ¬ (t + q + 2) * 2 ^ (p - 1) ≤ cc) (hU : sgn s sz cc = U) :
    Calls Try.prog 12 #[.agg #[.bool s, .slice A (limbs n).length c, .slice B (limbs e).length d], .int .i64 sz] w (RetBits U ex 0 w) := by
  refine (rbits_right s A B c d n e sz p q t w h h' hc hc' hn he hr hf hC).mono ?_
  intro E w' h2
  unfold RetCode at h2
  rw [if_neg ho, if_neg ho, if_neg ho] at h2
  rw [← hU]
  exact h2
theorem or_high {C z H : Nat} (h : C < 2 ^ z) (hz : z ≤ 63) (hH : H = 2 ^ z) : bits BinOp.or IntKind.u64 (C : Int) (H : Int) = ((C + H : Nat) : Int) := by
  have h1 := or_sign h hz
  rw [show min z 64 = z by omega] at h1
  have h2 : ((2 : Int) ^ z) = (H : Int) := by rw [hH, Int.natCast_pow]; rfl
  have h3 : 2 ^ z ≤ 9223372036854775808 := Nat.pow_le_pow_right (n := 2) (j := 63) (by decide) hz
  rw [h2, show IntKind.u64.wrap (H : Int) = (H : Int) by rw [IntKind.wrap_u64]; omega, ← hH] at h1
  exact h1
theorem Fm.of (sz : Int) : (sz ≠ 32 ∧ sz ≠ 64) ∨ ∃ p q t, Fm sz p q t := by
  by_cases h : sz = 32
  · exact .inr ⟨24, 149, 104, .inl ⟨h, rfl, rfl, rfl⟩⟩
  · by_cases h2 : sz = 64
    · exact .inr ⟨53, 1074, 971, .inr ⟨h2, rfl, rfl, rfl⟩⟩
    · exact .inl ⟨h, h2⟩
theorem alive_bits (A B : Option Addr) (w : World) (h : RdL w A (limbs 1)) (h' : RdL w B (limbs 2)) (hC : Code 24 149 1 2 1056964608 true) : Calls Try.prog 12 #[.agg #[.bool false, .slice A 1 1, .slice B 1 1], .int .i64 32] w (RetBits 1056964608 true 0 w) := by
  have h1 := rbits_right false A B 1 1 1 2 32 24 149 104 w h h' (by rw [limbs_1]; simp) (by rw [limbs_2]; simp) (small_top (by decide)) (small_top (by decide)) ⟨by decide, by decide, by decide⟩ (.inl ⟨rfl, rfl, rfl, rfl⟩) hC
  rw [limbs_1, limbs_2] at h1
  refine h1.mono ?_
  intro E w' h2
  unfold RetCode at h2
  simpa using h2
set_option maxRecDepth 100000 in
set_option maxHeartbeats 1000000 in
theorem alive3 (w : World) : Calls Try.prog 14 #[] w (RetBB true w) := by
  obtain ⟨cc, ex, hC⟩ := code_any 24 149 1 2 (by decide)
  obtain ⟨rfl, rfl⟩ := Code.self (b := 1056964608) (by decide) (by decide) hC
  have HC := Lib.hid hC; clear hC
  obtain ⟨wa, hwa⟩ : ∃ wa, wa = (w.alloc (.cells #[.int .u32 1] 80)).alloc (.cells #[.int .u32 2] 80) := ⟨_, rfl⟩
  have hbl : Below w.heap.size w wa := by rw [hwa]; exact bel_alloc (bel_alloc (bel_refl _) _) _
  have N1 : Blk wa (w.heap.size) 80 #[.int .u32 1] := by
    have hz := Blk.new (w) 80 #[.int .u32 1]
    rw [hwa]
    exact (hz.alloc _)
  have N2 : Blk wa (w.heap.size + 1) 80 #[.int .u32 2] := by
    have hz := Blk.new (w.alloc (.cells #[.int .u32 1] 80)) 80 #[.int .u32 2]
    rw [World.size_alloc] at hz
    rw [hwa]
    exact hz
  have HW := Lib.hid hbl; clear hbl
  replace N1 := Lib.hid N1
  replace N2 := Lib.hid N2
  go_enter Try.func14, Try.ntmps14
  go_wp2_with fail
  rw [← hwa]
  clear hwa
  refine (alive_bits _ _ _ (rd_one N1.out limbs_1) (rd_one N2.out limbs_2) HC.out).mono ?_
  rintro e w1 ⟨rfl, hbl⟩
  replace N1 := Lib.hid (N1.out.below hbl N1.out.lt)
  replace N2 := Lib.hid (N2.out.below hbl N2.out.lt)
  replace HW := Lib.hid (bel_trans HW.out hbl); clear hbl
  go_wp2
  go_ret
  exact ⟨rfl, HW.out⟩
end
section
open Go.RowKit

/-- What Bits answers. -/
structure BAns (s : Bool) (sz : Int) (xs ys : List Nat) (u : Nat) (x : Bool) (e : Int) : Prop where
  good : e = 0 → ∃ p q t n d cc, Fm sz p q t ∧ xs = limbs n ∧ ys = limbs d ∧ n < Top ∧ d < Top ∧ QR ⟨s, n, d⟩ ∧ Code p q n d cc x ∧ ¬ (t + q + 2) * 2 ^ (p - 1) ≤ cc ∧ u = sgn s sz cc
  bad : e ≠ 0 → u = 0 ∧ x = false
  sure : ∀ {p q t n d cc ex}, Fm sz p q t → xs = limbs n → ys = limbs d → n < Top → d < Top → QR ⟨s, n, d⟩ → Code p q n d cc ex → ¬ (t + q + 2) * 2 ^ (p - 1) ≤ cc → e = 0
theorem Fm.same {sz : Int} {p q t p' q' t' : Nat} (h : Fm sz p q t) (h' : Fm sz p' q' t') : p = p' ∧ q = q' ∧ t = t' := by
  rcases h with ⟨h1, rfl, rfl, rfl⟩ | ⟨h1, rfl, rfl, rfl⟩ <;> rcases h' with ⟨h2, rfl, rfl, rfl⟩ | ⟨h2, rfl, rfl, rfl⟩ <;> first | exact ⟨rfl, rfl, rfl⟩ | omega
theorem cmpI_nonneg3 {a b : Nat} : 0 ≤ cmpI (a : Int) (b : Int) ↔ b ≤ a := by
  unfold cmpI
  split
  · omega
  · split <;> omega
theorem cmpI_nonpos3 {a b : Nat} : cmpI (a : Int) (b : Int) ≤ 0 ↔ a ≤ b := by
  unfold cmpI
  split
  · omega
  · split <;> omega
theorem bits_ans (s : Bool) (A B : Option Addr) (c d : Nat) (xs ys : List Nat) (sz : Int) (m1 : Lim xs) (m2 : Lim ys) (l1 : xs.length ≤ 18) (l2 : ys.length ≤ 18) (k1 : xs.length ≤ c) (k2 : ys.length ≤ d) :
    ∃ u x e, BAns s sz xs ys u x e ∧ ∀ w1, RdL w1 A xs → RdL w1 B ys → Calls Try.prog 12 #[.agg #[.bool s, .slice A xs.length c, .slice B ys.length d], .int .i64 sz] w1 (RetBits u x e w1) := by
  rcases Fm.of sz with ⟨h32, h64⟩ | ⟨p, q, t, hf⟩
  · exact ⟨0, false, 1, ⟨fun h => absurd h (by decide), fun _ => ⟨rfl, rfl⟩, fun hf => by rcases hf with h | h; exact absurd h.1 h32; exact absurd h.1 h64⟩, fun w1 r1 r2 => rbits_size s A B c d xs ys sz w1 r1 r2 h32 h64⟩
  cases hr : rightB s xs ys
  · exact ⟨0, false, 1, ⟨fun h => absurd h (by decide), fun _ => ⟨rfl, rfl⟩, fun _ e1 e2 hn hd hq => by rw [e1, e2, (rightB_q hn hd).2 hq] at hr; cases hr⟩, fun w1 r1 r2 => rbits_wrong s A B c d xs ys sz p q t w1 r1 r2 m1 m2 l1 l2 k1 k2 hr hf⟩
  · obtain ⟨⟨s0, n, d0⟩, hs, rfl, rfl, hn, hd, hq⟩ := rightB_num m1 m2 hr
    obtain rfl : s0 = s := hs
    obtain ⟨cc, ex, hC⟩ := code_any p q n d0 (Nat.pos_of_ne_zero hq.den)
    by_cases ho : (t + q + 2) * 2 ^ (p - 1) ≤ cc
    · exact ⟨0, false, 2, ⟨fun h => absurd h (by decide), fun _ => ⟨rfl, rfl⟩, fun hf' e1 e2 _ _ _ hC' ho' => by
      obtain ⟨rfl, rfl, rfl⟩ := hf.same hf'
      obtain rfl := limbs_inj.1 e1
      obtain rfl := limbs_inj.1 e2
      obtain ⟨rfl, -⟩ := hC.uniq hC' (Nat.pos_of_ne_zero hq.den)
      exact absurd ho ho'⟩, fun w1 r1 r2 => rbits_over s0 A B c d n d0 sz p q t w1 r1 r2 k1 k2 hn hd hq hf hC ho⟩
    · exact ⟨sgn s0 sz cc, ex, 0, ⟨fun _ => ⟨p, q, t, n, d0, cc, hf, rfl, rfl, hn, hd, hq, hC, ho, rfl⟩, fun h => absurd rfl h, fun _ _ _ _ _ _ _ _ => rfl⟩, fun w1 r1 r2 => rbits_fit s0 A B c d n d0 sz p q t w1 r1 r2 k1 k2 hn hd hq hf hC ho rfl⟩
end
end Go.Proofs.Ytmbbdjpnecjleaa
