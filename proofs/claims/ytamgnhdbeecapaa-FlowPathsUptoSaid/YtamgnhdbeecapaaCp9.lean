/- Part 9 of the proof: LpOk. -/
import Derived.Test.YtamgnhdbeecapaaCp5
import Derived.Test.YtamgnhdbeecapaaProg
import Derived.KernelRfl

namespace Go.Ax.eo
open Go Go.Ax
theorem F_:Go.Proofs.Try.prog.follows .mixedOrders=true:=by kernel_rfl
theorem q14:bn Go.Proofs.Try.prog 14 a14:=au Go.Proofs.Try.func14 (by kernel_rfl) Go.Proofs.Try.call14
theorem q36:bn Go.Proofs.Try.prog 36 a36:=au Go.Proofs.Try.func36 (by kernel_rfl) Go.Proofs.Try.call36
theorem q41:bn Go.Proofs.Try.prog 41 a41:=au Go.Proofs.Try.func41 (by kernel_rfl) Go.Proofs.Try.call41
theorem q43:bn Go.Proofs.Try.prog 43 a43:=au Go.Proofs.Try.func43 (by kernel_rfl) Go.Proofs.Try.call43
theorem q44:bn Go.Proofs.Try.prog 44 a44:=au Go.Proofs.Try.func44 (by kernel_rfl) Go.Proofs.Try.call44
theorem q46:bn Go.Proofs.Try.prog 46 a46:=au Go.Proofs.Try.func46 (by kernel_rfl) Go.Proofs.Try.call46
theorem q49:bn Go.Proofs.Try.prog 49 a49:=au Go.Proofs.Try.func49 (by kernel_rfl) Go.Proofs.Try.call49
theorem q50:bn Go.Proofs.Try.prog 50 a50:=au Go.Proofs.Try.func50 (by kernel_rfl) Go.Proofs.Try.call50
theorem q53:bn Go.Proofs.Try.prog 53 a53:=au Go.Proofs.Try.func53 (by kernel_rfl) Go.Proofs.Try.call53
theorem q56:bn Go.Proofs.Try.prog 56 a56:=au Go.Proofs.Try.func56 (by kernel_rfl) Go.Proofs.Try.call56
theorem q60:bn Go.Proofs.Try.prog 60 a60:=au Go.Proofs.Try.func60 (by kernel_rfl) Go.Proofs.Try.call60
theorem q61:bn Go.Proofs.Try.prog 61 a61:=au Go.Proofs.Try.func61 (by kernel_rfl) Go.Proofs.Try.call61
theorem q62:bn Go.Proofs.Try.prog 62 a62:=au Go.Proofs.Try.func62 (by kernel_rfl) Go.Proofs.Try.call62
theorem q63:bn Go.Proofs.Try.prog 63 a63:=au Go.Proofs.Try.func63 (by kernel_rfl) Go.Proofs.Try.call63
theorem q64:bn Go.Proofs.Try.prog 64 a64:=au Go.Proofs.Try.func64 (by kernel_rfl) Go.Proofs.Try.call64
theorem q67:bn Go.Proofs.Try.prog 67 a67:=au Go.Proofs.Try.func67 (by kernel_rfl) Go.Proofs.Try.call67
theorem q68:bn Go.Proofs.Try.prog 68 a68:=au Go.Proofs.Try.func68 (by kernel_rfl) Go.Proofs.Try.call68
theorem q69:bn Go.Proofs.Try.prog 69 a69:=au Go.Proofs.Try.func69 (by kernel_rfl) Go.Proofs.Try.call69
theorem q70:bn Go.Proofs.Try.prog 70 a70:=au Go.Proofs.Try.func70 (by kernel_rfl) Go.Proofs.Try.call70
theorem q71:bn Go.Proofs.Try.prog 71 a71:=au Go.Proofs.Try.func71 (by kernel_rfl) Go.Proofs.Try.call71
theorem q72:bn Go.Proofs.Try.prog 72 a72:=au Go.Proofs.Try.func72 (by kernel_rfl) Go.Proofs.Try.call72
theorem q74:bn Go.Proofs.Try.prog 74 a74:=au Go.Proofs.Try.func74 (by kernel_rfl) Go.Proofs.Try.call74
theorem q75:bn Go.Proofs.Try.prog 75 a75:=au Go.Proofs.Try.func75 (by kernel_rfl) Go.Proofs.Try.call75
theorem q81:bn Go.Proofs.Try.prog 81 a81:=au Go.Proofs.Try.func81 (by kernel_rfl) Go.Proofs.Try.call81
theorem q82:bn Go.Proofs.Try.prog 82 a82:=au Go.Proofs.Try.func82 (by kernel_rfl) Go.Proofs.Try.call82
theorem q83:bn Go.Proofs.Try.prog 83 a83:=au Go.Proofs.Try.func83 (by kernel_rfl) Go.Proofs.Try.call83
theorem q84:bn Go.Proofs.Try.prog 84 a84:=au Go.Proofs.Try.func84 (by kernel_rfl) Go.Proofs.Try.call84
theorem q85:bn Go.Proofs.Try.prog 85 a85:=au Go.Proofs.Try.func85 (by kernel_rfl) Go.Proofs.Try.call85
theorem q86:bn Go.Proofs.Try.prog 86 a86:=au Go.Proofs.Try.func86 (by kernel_rfl) Go.Proofs.Try.call86
theorem q87:bn Go.Proofs.Try.prog 87 a87:=au Go.Proofs.Try.func87 (by kernel_rfl) Go.Proofs.Try.call87
theorem q88:bn Go.Proofs.Try.prog 88 a88:=au Go.Proofs.Try.func88 (by kernel_rfl) Go.Proofs.Try.call88
theorem q92:bn Go.Proofs.Try.prog 92 a92:=au Go.Proofs.Try.func92 (by kernel_rfl) Go.Proofs.Try.call92
theorem q93:bn Go.Proofs.Try.prog 93 a93:=au Go.Proofs.Try.func93 (by kernel_rfl) Go.Proofs.Try.call93
theorem q94:bn Go.Proofs.Try.prog 94 a94:=au Go.Proofs.Try.func94 (by kernel_rfl) Go.Proofs.Try.call94
theorem q95:bn Go.Proofs.Try.prog 95 a95:=au Go.Proofs.Try.func95 (by kernel_rfl) Go.Proofs.Try.call95
theorem q96:bn Go.Proofs.Try.prog 96 a96:=au Go.Proofs.Try.func96 (by kernel_rfl) Go.Proofs.Try.call96
theorem q97:bn Go.Proofs.Try.prog 97 a97:=au Go.Proofs.Try.func97 (by kernel_rfl) Go.Proofs.Try.call97
theorem q99:bn Go.Proofs.Try.prog 99 a99:=au Go.Proofs.Try.func99 (by kernel_rfl) Go.Proofs.Try.call99
theorem q100:bn Go.Proofs.Try.prog 100 Zo:=au Go.Proofs.Try.func100 (by kernel_rfl) Go.Proofs.Try.call100
theorem q101:bn Go.Proofs.Try.prog 101 Zn:=au Go.Proofs.Try.func101 (by kernel_rfl) Go.Proofs.Try.call101
theorem q102:bn Go.Proofs.Try.prog 102 Zm:=au Go.Proofs.Try.func102 (by kernel_rfl) Go.Proofs.Try.call102
theorem q104:bn Go.Proofs.Try.prog 104 Vl:=au Go.Proofs.Try.func104 (by kernel_rfl) Go.Proofs.Try.call104
theorem q105:bn Go.Proofs.Try.prog 105 Vk:=au Go.Proofs.Try.func105 (by kernel_rfl) Go.Proofs.Try.call105
theorem q106:bn Go.Proofs.Try.prog 106 Vj:=au Go.Proofs.Try.func106 (by kernel_rfl) Go.Proofs.Try.call106
theorem q107:bn Go.Proofs.Try.prog 107 Vi:=au Go.Proofs.Try.func107 (by kernel_rfl) Go.Proofs.Try.call107
theorem q108:bn Go.Proofs.Try.prog 108 Vh:=au Go.Proofs.Try.func108 (by kernel_rfl) Go.Proofs.Try.call108
theorem q109:bn Go.Proofs.Try.prog 109 Vg:=au Go.Proofs.Try.func109 (by kernel_rfl) Go.Proofs.Try.call109
theorem q110:bn Go.Proofs.Try.prog 110 Vf:=au Go.Proofs.Try.func110 (by kernel_rfl) Go.Proofs.Try.call110
theorem q111:bn Go.Proofs.Try.prog 111 Ve:=au Go.Proofs.Try.func111 (by kernel_rfl) Go.Proofs.Try.call111
theorem q112:bn Go.Proofs.Try.prog 112 Vd:=au Go.Proofs.Try.func112 (by kernel_rfl) Go.Proofs.Try.call112
theorem q113:bn Go.Proofs.Try.prog 113 Vb:=au Go.Proofs.Try.func113 (by kernel_rfl) Go.Proofs.Try.call113
theorem q114:bn Go.Proofs.Try.prog 114 Va:=au Go.Proofs.Try.func114 (by kernel_rfl) Go.Proofs.Try.call114
theorem q115:bn Go.Proofs.Try.prog 115 U_:=au Go.Proofs.Try.func115 (by kernel_rfl) Go.Proofs.Try.call115
theorem q116:bn Go.Proofs.Try.prog 116 U9:=au Go.Proofs.Try.func116 (by kernel_rfl) Go.Proofs.Try.call116
theorem q117:bn Go.Proofs.Try.prog 117 U8:=au Go.Proofs.Try.func117 (by kernel_rfl) Go.Proofs.Try.call117
theorem q118:bn Go.Proofs.Try.prog 118 U7:=au Go.Proofs.Try.func118 (by kernel_rfl) Go.Proofs.Try.call118
theorem q119:bn Go.Proofs.Try.prog 119 U6:=au Go.Proofs.Try.func119 (by kernel_rfl) Go.Proofs.Try.call119
theorem q120:bn Go.Proofs.Try.prog 120 U5:=au Go.Proofs.Try.func120 (by kernel_rfl) Go.Proofs.Try.call120
theorem q121:bn Go.Proofs.Try.prog 121 Zl:=au Go.Proofs.Try.func121 (by kernel_rfl) Go.Proofs.Try.call121
theorem q122:bn Go.Proofs.Try.prog 122 U4:=au Go.Proofs.Try.func122 (by kernel_rfl) Go.Proofs.Try.call122
theorem q127:bn Go.Proofs.Try.prog 127 U3:=au Go.Proofs.Try.func127 (by kernel_rfl) Go.Proofs.Try.call127
theorem q128:bn Go.Proofs.Try.prog 128 U2:=au Go.Proofs.Try.func128 (by kernel_rfl) Go.Proofs.Try.call128
theorem q129:bn Go.Proofs.Try.prog 129 U1:=au Go.Proofs.Try.func129 (by kernel_rfl) Go.Proofs.Try.call129
theorem q136:bn Go.Proofs.Try.prog 136 Zk:=au Go.Proofs.Try.func136 (by kernel_rfl) Go.Proofs.Try.call136
theorem q137:bn Go.Proofs.Try.prog 137 Zj:=au Go.Proofs.Try.func137 (by kernel_rfl) Go.Proofs.Try.call137
theorem q138:bn Go.Proofs.Try.prog 138 Zi:=au Go.Proofs.Try.func138 (by kernel_rfl) Go.Proofs.Try.call138
theorem q139:bn Go.Proofs.Try.prog 139 Zh:=au Go.Proofs.Try.func139 (by kernel_rfl) Go.Proofs.Try.call139
theorem q140:bn Go.Proofs.Try.prog 140 Zg:=au Go.Proofs.Try.func140 (by kernel_rfl) Go.Proofs.Try.call140
theorem q141:bn Go.Proofs.Try.prog 141 U0:=au Go.Proofs.Try.func141 (by kernel_rfl) Go.Proofs.Try.call141
theorem q142:bn Go.Proofs.Try.prog 142 UZ:=au Go.Proofs.Try.func142 (by kernel_rfl) Go.Proofs.Try.call142
theorem q143:bn Go.Proofs.Try.prog 143 UY:=au Go.Proofs.Try.func143 (by kernel_rfl) Go.Proofs.Try.call143
theorem q144:bn Go.Proofs.Try.prog 144 UX:=au Go.Proofs.Try.func144 (by kernel_rfl) Go.Proofs.Try.call144
theorem q145:bn Go.Proofs.Try.prog 145 UW:=au Go.Proofs.Try.func145 (by kernel_rfl) Go.Proofs.Try.call145
theorem q146:bn Go.Proofs.Try.prog 146 UU:=au Go.Proofs.Try.func146 (by kernel_rfl) Go.Proofs.Try.call146
theorem q147:bn Go.Proofs.Try.prog 147 UT:=au Go.Proofs.Try.func147 (by kernel_rfl) Go.Proofs.Try.call147
theorem q148:bn Go.Proofs.Try.prog 148 US:=au Go.Proofs.Try.func148 (by kernel_rfl) Go.Proofs.Try.call148
theorem q149:bn Go.Proofs.Try.prog 149 UR:=au Go.Proofs.Try.func149 (by kernel_rfl) Go.Proofs.Try.call149
theorem q150:bn Go.Proofs.Try.prog 150 UQ:=au Go.Proofs.Try.func150 (by kernel_rfl) Go.Proofs.Try.call150
theorem q151:bn Go.Proofs.Try.prog 151 UP:=au Go.Proofs.Try.func151 (by kernel_rfl) Go.Proofs.Try.call151
theorem q152:bn Go.Proofs.Try.prog 152 UO:=au Go.Proofs.Try.func152 (by kernel_rfl) Go.Proofs.Try.call152
theorem q153:bn Go.Proofs.Try.prog 153 UN:=au Go.Proofs.Try.func153 (by kernel_rfl) Go.Proofs.Try.call153
theorem q154:bn Go.Proofs.Try.prog 154 UM:=au Go.Proofs.Try.func154 (by kernel_rfl) Go.Proofs.Try.call154
theorem q155:bn Go.Proofs.Try.prog 155 UL:=au Go.Proofs.Try.func155 (by kernel_rfl) Go.Proofs.Try.call155
theorem q156:bn Go.Proofs.Try.prog 156 UK:=au Go.Proofs.Try.func156 (by kernel_rfl) Go.Proofs.Try.call156
theorem q157:bn Go.Proofs.Try.prog 157 UJ:=au Go.Proofs.Try.func157 (by kernel_rfl) Go.Proofs.Try.call157
theorem q158:bn Go.Proofs.Try.prog 158 UI:=au Go.Proofs.Try.func158 (by kernel_rfl) Go.Proofs.Try.call158
theorem q159:bn Go.Proofs.Try.prog 159 UH:=au Go.Proofs.Try.func159 (by kernel_rfl) Go.Proofs.Try.call159
theorem q160:bn Go.Proofs.Try.prog 160 UG:=au Go.Proofs.Try.func160 (by kernel_rfl) Go.Proofs.Try.call160
theorem q163:bn Go.Proofs.Try.prog 163 Zf:=au Go.Proofs.Try.func163 (by kernel_rfl) Go.Proofs.Try.call163
theorem q164:bn Go.Proofs.Try.prog 164 Ze:=au Go.Proofs.Try.func164 (by kernel_rfl) Go.Proofs.Try.call164
theorem q165:bn Go.Proofs.Try.prog 165 Zd:=au Go.Proofs.Try.func165 (by kernel_rfl) Go.Proofs.Try.call165
theorem q166:bn Go.Proofs.Try.prog 166 UF:=au Go.Proofs.Try.func166 (by kernel_rfl) Go.Proofs.Try.call166
theorem q167:bn Go.Proofs.Try.prog 167 UE:=au Go.Proofs.Try.func167 (by kernel_rfl) Go.Proofs.Try.call167
theorem q168:bn Go.Proofs.Try.prog 168 UD:=au Go.Proofs.Try.func168 (by kernel_rfl) Go.Proofs.Try.call168
theorem q169:bn Go.Proofs.Try.prog 169 Zc:=au Go.Proofs.Try.func169 (by kernel_rfl) Go.Proofs.Try.call169
theorem allM:SQ (bn Go.Proofs.Try.prog) prog (fun k=>k):=⟨trivial,⟨trivial,⟨trivial,⟨trivial,⟨trivial,⟨trivial,⟨q63,⟨q127,trivial,trivial⟩,trivial⟩,⟨q95,⟨q159,trivial,trivial⟩,trivial⟩⟩,⟨trivial,⟨trivial,⟨q143,trivial,trivial⟩,trivial⟩,⟨q111,trivial,trivial⟩⟩⟩,⟨trivial,⟨trivial,⟨q71,trivial,trivial⟩,⟨trivial,⟨q167,trivial,trivial⟩,trivial⟩⟩,⟨trivial,⟨q87,⟨q151,trivial,trivial⟩,trivial⟩,⟨q119,trivial,trivial⟩⟩⟩⟩,⟨trivial,⟨trivial,⟨trivial,⟨q67,trivial,trivial⟩,⟨q99,⟨q163,trivial,trivial⟩,trivial⟩⟩,⟨trivial,⟨q83,⟨q147,trivial,trivial⟩,trivial⟩,⟨q115,trivial,trivial⟩⟩⟩,⟨trivial,⟨q43,⟨q75,⟨q139,trivial,trivial⟩,trivial⟩,⟨q107,trivial,trivial⟩⟩,⟨trivial,⟨trivial,⟨q155,trivial,trivial⟩,trivial⟩,trivial⟩⟩⟩⟩,⟨trivial,⟨trivial,⟨trivial,⟨trivial,⟨trivial,⟨q129,trivial,trivial⟩,trivial⟩,⟨q97,trivial,trivial⟩⟩,⟨q49,⟨q81,⟨q145,trivial,trivial⟩,trivial⟩,⟨q113,trivial,trivial⟩⟩⟩,⟨trivial,⟨q41,⟨trivial,⟨q137,trivial,trivial⟩,trivial⟩,⟨q105,⟨q169,trivial,trivial⟩,trivial⟩⟩,⟨trivial,⟨trivial,⟨q153,trivial,trivial⟩,trivial⟩,⟨q121,trivial,trivial⟩⟩⟩⟩,⟨trivial,⟨trivial,⟨trivial,⟨q69,trivial,trivial⟩,⟨q101,⟨q165,trivial,trivial⟩,trivial⟩⟩,⟨q53,⟨q85,⟨q149,trivial,trivial⟩,trivial⟩,⟨q117,trivial,trivial⟩⟩⟩,⟨trivial,⟨trivial,⟨trivial,⟨q141,trivial,trivial⟩,trivial⟩,⟨q109,trivial,trivial⟩⟩,⟨q61,⟨q93,⟨q157,trivial,trivial⟩,trivial⟩,trivial⟩⟩⟩⟩⟩,⟨trivial,⟨trivial,⟨trivial,⟨trivial,⟨trivial,⟨q64,⟨q128,trivial,trivial⟩,trivial⟩,⟨q96,⟨q160,trivial,trivial⟩,trivial⟩⟩,⟨trivial,⟨trivial,⟨q144,trivial,trivial⟩,trivial⟩,⟨q112,trivial,trivial⟩⟩⟩,⟨trivial,⟨trivial,⟨q72,⟨q136,trivial,trivial⟩,trivial⟩,⟨q104,⟨q168,trivial,trivial⟩,trivial⟩⟩,⟨q56,⟨q88,⟨q152,trivial,trivial⟩,trivial⟩,⟨q120,trivial,trivial⟩⟩⟩⟩,⟨trivial,⟨trivial,⟨q36,⟨q68,trivial,trivial⟩,⟨q100,⟨q164,trivial,trivial⟩,trivial⟩⟩,⟨trivial,⟨q84,⟨q148,trivial,trivial⟩,trivial⟩,⟨q116,trivial,trivial⟩⟩⟩,⟨trivial,⟨q44,⟨trivial,⟨q140,trivial,trivial⟩,trivial⟩,⟨q108,trivial,trivial⟩⟩,⟨q60,⟨q92,⟨q156,trivial,trivial⟩,trivial⟩,trivial⟩⟩⟩⟩,⟨trivial,⟨trivial,⟨trivial,trivial,⟨q50,⟨q82,⟨q146,trivial,trivial⟩,trivial⟩,⟨q114,trivial,trivial⟩⟩⟩,⟨trivial,⟨trivial,⟨q74,⟨q138,trivial,trivial⟩,trivial⟩,⟨q106,trivial,trivial⟩⟩,⟨trivial,⟨trivial,⟨q154,trivial,trivial⟩,trivial⟩,⟨q122,trivial,trivial⟩⟩⟩⟩,⟨q14,⟨trivial,⟨trivial,⟨q70,trivial,trivial⟩,⟨q102,⟨q166,trivial,trivial⟩,trivial⟩⟩,⟨trivial,⟨q86,⟨q150,trivial,trivial⟩,trivial⟩,⟨q118,trivial,trivial⟩⟩⟩,⟨trivial,⟨q46,⟨trivial,⟨q142,trivial,trivial⟩,trivial⟩,⟨q110,trivial,trivial⟩⟩,⟨q62,⟨q94,⟨q158,trivial,trivial⟩,trivial⟩,trivial⟩⟩⟩⟩⟩⟩
theorem fnOk (k:Nat):zk Go.Proofs.Try.prog (interp prog k).fn:=(G7 F_ (fun f af h=>F2 prog (fun k=>k) allM f af h) k).2.2
end Go.Ax.eo
