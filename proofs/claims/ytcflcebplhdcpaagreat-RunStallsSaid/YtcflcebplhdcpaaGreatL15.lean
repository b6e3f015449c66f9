/- Lemmas, part 15; each states its own conditions. -/
import Derived.Test.YtcflcebplhdcpaaGreatL8
namespace Go.Proofs.YtcflcebplhdcpaaGreat
open Go.RowKit
set_option linter.unusedSimpArgs false
set_option linter.unusedVariables false
set_option maxRecDepth 100000
set_option maxHeartbeats 16000000
def at0:=bw 38 [] Tryz.func67
def at2:=bw 71 [] Tryz.func71
def aas:=cS 0x106a2232206703d108700760360870
def atX:=cV 26 [] aas Tryz.func105
def aat:=cS 0x106a2232206703d108700760360870
def atY:=cV 26 [] aat Tryz.func106
def XS:=bw 71 [] Tryz.func111
def aau:=cS 0x10ca2204b110470
def XT:=cV 45 [] aau Tryz.func112
def aaw:=cS 0x107a23205700d03d11120a6006603d1120a60076036120a6006600d03d1120a60076036120a60076006036120a600fa2323208700d03d06621120d6006609703d1120d600a6036120d6006609700d03d1120d600a6036120d600a6006036120d60
def J7:=cV 146 [] aaw Tryz.func116
def GD:=bw 16 [] Tryz.func151
def aax:=cS 0x10da2222212222222122222223218716621a70
def XX:=cV 117 [] aax Tryz.func152
def aay:=cS 0x104a2204b11047006a2204b1104700aa2204b1104700ea2204b11047011a2202705704b1f11087017a2222205709704b11f110c701aa2222221208601ba2204b1104701da32204b0470161107701fa32204b205701d06d2110a700861310a701077016110a7026a2222320770c704b05d111f110f7008605611f110f702fa23204b04702611077031a232204b2304b08702df12110d7007602612110d7037a3203701d04d2110870066131087010570161108703da2204b11047041a2204b11047042a2303704bf110670
def XY:=cV 276 [] aay Tryz.func153
def X0:=bw 26 [] Tryz.func155
def aaA:=cS 0x101a23205700d03d1108700660361087006600603610870
def X1:=cV 11 [] aaA Tryz.func156
def PZ:=bw 9 [] Tryz.func226
def aaC:=cS 0x120a222222222222222222222222222222222122370
def X3:=cV 140 [] aaC Tryz.func227
def P0:=bw 21 [] Tryz.func228
def X4:=bw 29 [] Tryz.func229
def X5:=bw 43 [] Tryz.func230
def X6:=bw 11 [] Tryz.func231
def zR:=bw 11 [] Tryz.func236
def X7:=bw 52 [] Tryz.func288
def BN:=bw 22 [] Tryz.func289
def Kc:=bw 5 [] Tryz.func75
def J8:=bw 14 [] Tryz.func232
def aaD:=cS 0x10aa22204b2205d120870066f2087014a2223206704612120b7016a2323207702d05d112120d7008605612120d7008602605612120d7019a32204b04701d05d120870066f20870056016120870
def J9:=cV 95 [] aaD Tryz.func233
def X8:=bw 21 [] Tryz.func290
def aaE:=cS 0x10aa22222211120a600ba22222211120a60
def X9:=cV 78 [] aaE Tryz.func291
def aaF:=cS 0x107a22222211120a6008a22222211120a60
def Ya:=cV 44 [] aaF Tryz.func292
def aaH:=cS 0x108a2221112208600ca22211122086010a222111220860
def Yc:=cV 85 [] aaH Tryz.func33
def aaK:=cS 0x11ea2220cb2120670
def Kd:=cV 156 [] aaK Tryz.func76
def XU:=bw 75 [] Tryz.func113
def aav:=cS 0x10ba222222308707d09d222211211700e6122231211700e6f12223121170
def XV:=cV 87 [] aav Tryz.func114
def XW:=bw 42 [] Tryz.func115
def aaz:=cS 0x108a2223206704d07d22221120f700c612223120f700c604612223120f7012a22322067220b70361087120e7014a2204b10360
def XZ:=cV 89 [] aaz Tryz.func154
def aaB:=cS 0x104a2232206703d10870076036087005a2232206703d12097007603620970
def X2:=cV 41 [] aaB Tryz.func157
def Ka:=bw 16 [] Tryz.func234
def wE:=bw 20 [] Tryz.func235
def atZ:=bw 35 [] Tryz.func31
def aaG:=cS 0x111a222222110870
def Yb:=cV 139 [] aaG Tryz.func32
def aaL:=cS 0x104a22206b222206b222222206b22211270
def Ye:=cV 37 [] aaL Tryz.func9
def XR:=bw 134 [] Tryz.func10
def Yd:=bw 55 [] Tryz.func34
def aaI:=cS 0x105a2208b22110670
def vi:=cV 44 [] aaI Tryz.func4
def aaJ:=cS 0x106a2232206703d108600760360860
def at1:=cV 26 [] aaJ Tryz.func70
end Go.Proofs.YtcflcebplhdcpaaGreat
