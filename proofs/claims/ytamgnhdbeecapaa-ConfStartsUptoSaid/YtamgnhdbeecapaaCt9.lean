/- Part 9 of the proof: LtOk. -/
import Derived.Test.YtamgnhdbeecapaaCt5
import Derived.Test.YtamgnhdbeecapaaProg
import Derived.KernelRfl
set_option linter.unusedSimpArgs false
set_option linter.unusedVariables false
namespace Go.Ax.dg
open Go Go.Ax
theorem Fc:Go.Proofs.Try.prog.follows .mixedOrders=true:=by kernel_rfl
open Go.Proofs.Try
abbrev mQ:=Dv Go.Proofs.Try.prog
theorem mW {f:Nat} {fn:Func} {af:ay} (hf:Go.Proofs.Try.prog.funcs[f]?=some fn) (hm:mF Go.Proofs.Try.prog fn af=true) (hc:∀args w,(callFunc f args).run Go.Proofs.Try.prog w=.ok (.enter f args) w):mQ f af:=Mc hf hm hc
theorem q7:mQ 7 a7:=mW func7 (by kernel_rfl) call7
theorem q19:mQ 19 a19:=mW func19 (by kernel_rfl) call19
theorem q20:mQ 20 a20:=mW func20 (by kernel_rfl) call20
theorem q22:mQ 22 a22:=mW func22 (by kernel_rfl) call22
theorem q23:mQ 23 a23:=mW func23 (by kernel_rfl) call23
theorem q26:mQ 26 a26:=mW func26 (by kernel_rfl) call26
theorem q27:mQ 27 a27:=mW func27 (by kernel_rfl) call27
theorem q28:mQ 28 a28:=mW func28 (by kernel_rfl) call28
theorem q29:mQ 29 a29:=mW func29 (by kernel_rfl) call29
theorem q31:mQ 31 a31:=mW func31 (by kernel_rfl) call31
theorem q32:mQ 32 a32:=mW func32 (by kernel_rfl) call32
theorem q33:mQ 33 a33:=mW func33 (by kernel_rfl) call33
theorem q36:mQ 36 a36:=mW func36 (by kernel_rfl) call36
theorem q41:mQ 41 a41:=mW func41 (by kernel_rfl) call41
theorem q44:mQ 44 a44:=mW func44 (by kernel_rfl) call44
theorem q45:mQ 45 a45:=mW func45 (by kernel_rfl) call45
theorem q47:mQ 47 a47:=mW func47 (by kernel_rfl) call47
theorem q48:mQ 48 a48:=mW func48 (by kernel_rfl) call48
theorem q49:mQ 49 a49:=mW func49 (by kernel_rfl) call49
theorem q50:mQ 50 a50:=mW func50 (by kernel_rfl) call50
theorem q53:mQ 53 a53:=mW func53 (by kernel_rfl) call53
theorem q54:mQ 54 a54:=mW func54 (by kernel_rfl) call54
theorem q56:mQ 56 Z8:=mW func56 (by kernel_rfl) call56
theorem q57:mQ 57 Z7:=mW func57 (by kernel_rfl) call57
theorem q60:mQ 60 a60:=mW func60 (by kernel_rfl) call60
theorem q64:mQ 64 a64:=mW func64 (by kernel_rfl) call64
theorem q65:mQ 65 a65:=mW func65 (by kernel_rfl) call65
theorem q66:mQ 66 a66:=mW func66 (by kernel_rfl) call66
theorem q67:mQ 67 a67:=mW func67 (by kernel_rfl) call67
theorem q68:mQ 68 a68:=mW func68 (by kernel_rfl) call68
theorem q69:mQ 69 a69:=mW func69 (by kernel_rfl) call69
theorem q70:mQ 70 a70:=mW func70 (by kernel_rfl) call70
theorem q71:mQ 71 a71:=mW func71 (by kernel_rfl) call71
theorem q72:mQ 72 a72:=mW func72 (by kernel_rfl) call72
theorem q74:mQ 74 a74:=mW func74 (by kernel_rfl) call74
theorem q75:mQ 75 a75:=mW func75 (by kernel_rfl) call75
theorem q76:mQ 76 a76:=mW func76 (by kernel_rfl) call76
theorem q77:mQ 77 a77:=mW func77 (by kernel_rfl) call77
theorem q78:mQ 78 a78:=mW func78 (by kernel_rfl) call78
theorem q79:mQ 79 a79:=mW func79 (by kernel_rfl) call79
theorem q81:mQ 81 a81:=mW func81 (by kernel_rfl) call81
theorem q82:mQ 82 a82:=mW func82 (by kernel_rfl) call82
theorem q83:mQ 83 a83:=mW func83 (by kernel_rfl) call83
theorem q89:mQ 89 a89:=mW func89 (by kernel_rfl) call89
theorem q90:mQ 90 a90:=mW func90 (by kernel_rfl) call90
theorem q91:mQ 91 a91:=mW func91 (by kernel_rfl) call91
theorem q92:mQ 92 a92:=mW func92 (by kernel_rfl) call92
theorem q93:mQ 93 a93:=mW func93 (by kernel_rfl) call93
theorem q94:mQ 94 a94:=mW func94 (by kernel_rfl) call94
theorem q95:mQ 95 a95:=mW func95 (by kernel_rfl) call95
theorem q96:mQ 96 a96:=mW func96 (by kernel_rfl) call96
theorem q97:mQ 97 a97:=mW func97 (by kernel_rfl) call97
theorem q99:mQ 99 a99:=mW func99 (by kernel_rfl) call99
theorem q100:mQ 100 Wv:=mW func100 (by kernel_rfl) call100
theorem q101:mQ 101 Wu:=mW func101 (by kernel_rfl) call101
theorem q102:mQ 102 Wt:=mW func102 (by kernel_rfl) call102
theorem q104:mQ 104 Ws:=mW func104 (by kernel_rfl) call104
theorem q105:mQ 105 Wq:=mW func105 (by kernel_rfl) call105
theorem q106:mQ 106 Wp:=mW func106 (by kernel_rfl) call106
theorem q107:mQ 107 Wo:=mW func107 (by kernel_rfl) call107
theorem q109:mQ 109 Wn:=mW func109 (by kernel_rfl) call109
theorem q123:mQ 123 Wm:=mW func123 (by kernel_rfl) call123
theorem q124:mQ 124 Wl:=mW func124 (by kernel_rfl) call124
theorem q125:mQ 125 Wk:=mW func125 (by kernel_rfl) call125
theorem q126:mQ 126 Wj:=mW func126 (by kernel_rfl) call126
theorem q127:mQ 127 Wi:=mW func127 (by kernel_rfl) call127
theorem q128:mQ 128 Wh:=mW func128 (by kernel_rfl) call128
theorem q129:mQ 129 Wg:=mW func129 (by kernel_rfl) call129
theorem q136:mQ 136 Wf:=mW func136 (by kernel_rfl) call136
theorem q137:mQ 137 We:=mW func137 (by kernel_rfl) call137
theorem q138:mQ 138 Wd:=mW func138 (by kernel_rfl) call138
theorem q139:mQ 139 Wc:=mW func139 (by kernel_rfl) call139
theorem q140:mQ 140 Wb:=mW func140 (by kernel_rfl) call140
theorem q141:mQ 141 Wa:=mW func141 (by kernel_rfl) call141
theorem q142:mQ 142 V_:=mW func142 (by kernel_rfl) call142
theorem q143:mQ 143 V9:=mW func143 (by kernel_rfl) call143
theorem q144:mQ 144 V8:=mW func144 (by kernel_rfl) call144
theorem q145:mQ 145 V7:=mW func145 (by kernel_rfl) call145
theorem q146:mQ 146 V6:=mW func146 (by kernel_rfl) call146
theorem q147:mQ 147 V5:=mW func147 (by kernel_rfl) call147
theorem q148:mQ 148 V4:=mW func148 (by kernel_rfl) call148
theorem q149:mQ 149 V3:=mW func149 (by kernel_rfl) call149
theorem q156:mQ 156 VZ:=mW func156 (by kernel_rfl) call156
theorem q157:mQ 157 VW:=mW func157 (by kernel_rfl) call157
theorem q158:mQ 158 VU:=mW func158 (by kernel_rfl) call158
theorem q159:mQ 159 VT:=mW func159 (by kernel_rfl) call159
theorem q160:mQ 160 VQ:=mW func160 (by kernel_rfl) call160
theorem q163:mQ 163 VP:=mW func163 (by kernel_rfl) call163
theorem q164:mQ 164 VN:=mW func164 (by kernel_rfl) call164
theorem q165:mQ 165 VM:=mW func165 (by kernel_rfl) call165
theorem q166:mQ 166 VL:=mW func166 (by kernel_rfl) call166
theorem q168:mQ 168 VK:=mW func168 (by kernel_rfl) call168
theorem q169:mQ 169 VJ:=mW func169 (by kernel_rfl) call169
theorem allM:TK (Dv Go.Proofs.Try.prog) prog (fun k=>k):=⟨trivial,⟨trivial,⟨trivial,⟨q7,⟨trivial,⟨q31,⟨trivial,⟨q127,trivial,trivial⟩,trivial⟩,⟨q95,⟨q159,trivial,trivial⟩,trivial⟩⟩,⟨q47,⟨q79,⟨q143,trivial,trivial⟩,trivial⟩,trivial⟩⟩,⟨q23,⟨trivial,⟨q71,trivial,trivial⟩,trivial⟩,trivial⟩⟩,⟨trivial,⟨q19,⟨trivial,⟨q67,trivial,trivial⟩,⟨q99,⟨q163,trivial,trivial⟩,trivial⟩⟩,⟨trivial,⟨q83,⟨q147,trivial,trivial⟩,trivial⟩,trivial⟩⟩,⟨q27,⟨trivial,⟨q75,⟨q139,trivial,trivial⟩,trivial⟩,⟨q107,trivial,trivial⟩⟩,⟨trivial,⟨q91,trivial,trivial⟩,⟨q123,trivial,trivial⟩⟩⟩⟩⟩,⟨trivial,⟨trivial,⟨trivial,⟨q33,⟨q65,⟨q129,trivial,trivial⟩,trivial⟩,⟨q97,trivial,trivial⟩⟩,⟨q49,⟨q81,⟨q145,trivial,trivial⟩,trivial⟩,trivial⟩⟩,⟨trivial,⟨q41,⟨trivial,⟨q137,trivial,trivial⟩,trivial⟩,⟨q105,⟨q169,trivial,trivial⟩,trivial⟩⟩,⟨q57,⟨q89,trivial,trivial⟩,trivial⟩⟩⟩,⟨trivial,⟨trivial,⟨trivial,⟨q69,trivial,trivial⟩,⟨q101,⟨q165,trivial,trivial⟩,trivial⟩⟩,⟨q53,⟨trivial,⟨q149,trivial,trivial⟩,trivial⟩,trivial⟩⟩,⟨q29,⟨q45,⟨q77,⟨q141,trivial,trivial⟩,trivial⟩,⟨q109,trivial,trivial⟩⟩,⟨trivial,⟨q93,⟨q157,trivial,trivial⟩,trivial⟩,⟨q125,trivial,trivial⟩⟩⟩⟩⟩⟩,⟨trivial,⟨trivial,⟨trivial,⟨trivial,⟨q32,⟨q64,⟨q128,trivial,trivial⟩,trivial⟩,⟨q96,⟨q160,trivial,trivial⟩,trivial⟩⟩,⟨q48,⟨trivial,⟨q144,trivial,trivial⟩,trivial⟩,trivial⟩⟩,⟨trivial,⟨trivial,⟨q72,⟨q136,trivial,trivial⟩,trivial⟩,⟨q104,⟨q168,trivial,trivial⟩,trivial⟩⟩,⟨q56,trivial,trivial⟩⟩⟩,⟨trivial,⟨q20,⟨q36,⟨q68,trivial,trivial⟩,⟨q100,⟨q164,trivial,trivial⟩,trivial⟩⟩,⟨trivial,⟨trivial,⟨q148,trivial,trivial⟩,trivial⟩,trivial⟩⟩,⟨q28,⟨q44,⟨q76,⟨q140,trivial,trivial⟩,trivial⟩,trivial⟩,⟨q60,⟨q92,⟨q156,trivial,trivial⟩,trivial⟩,⟨q124,trivial,trivial⟩⟩⟩⟩⟩,⟨trivial,⟨trivial,⟨trivial,⟨trivial,⟨q66,trivial,trivial⟩,trivial⟩,⟨q50,⟨q82,⟨q146,trivial,trivial⟩,trivial⟩,trivial⟩⟩,⟨q26,⟨trivial,⟨q74,⟨q138,trivial,trivial⟩,trivial⟩,⟨q106,trivial,trivial⟩⟩,⟨trivial,⟨q90,trivial,trivial⟩,trivial⟩⟩⟩,⟨trivial,⟨q22,⟨trivial,⟨q70,trivial,trivial⟩,⟨q102,⟨q166,trivial,trivial⟩,trivial⟩⟩,⟨q54,trivial,trivial⟩⟩,⟨trivial,⟨trivial,⟨q78,⟨q142,trivial,trivial⟩,trivial⟩,trivial⟩,⟨trivial,⟨q94,⟨q158,trivial,trivial⟩,trivial⟩,⟨q126,trivial,trivial⟩⟩⟩⟩⟩⟩⟩
theorem fnOk (k:Nat):Aq Go.Proofs.Try.prog (interp prog k).fn:=(HN Fc (fun f af h=>GC prog (fun k=>k) allM f af h) k).2.2
end Go.Ax.dg
