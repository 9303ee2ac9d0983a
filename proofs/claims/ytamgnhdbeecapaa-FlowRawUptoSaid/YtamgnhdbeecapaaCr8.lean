/- Part 8 of the proof: LrOk. -/
import Derived.Test.YtamgnhdbeecapaaCr0
import Derived.Test.YtamgnhdbeecapaaCr5
import Derived.Test.YtamgnhdbeecapaaProg
import Derived.KernelRfl

namespace Go.Ax.TryLr
open Go Go.Ax
theorem hmx:Go.Proofs.Try.prog.follows .mixedOrders=true:=by kernel_rfl
theorem q11:Matched Go.Proofs.Try.prog 11 a11:=matched_of Go.Proofs.Try.func11 (by kernel_rfl) Go.Proofs.Try.call11
theorem q36:Matched Go.Proofs.Try.prog 36 a36:=matched_of Go.Proofs.Try.func36 (by kernel_rfl) Go.Proofs.Try.call36
theorem q41:Matched Go.Proofs.Try.prog 41 a41:=matched_of Go.Proofs.Try.func41 (by kernel_rfl) Go.Proofs.Try.call41
theorem q43:Matched Go.Proofs.Try.prog 43 a43:=matched_of Go.Proofs.Try.func43 (by kernel_rfl) Go.Proofs.Try.call43
theorem q44:Matched Go.Proofs.Try.prog 44 a44:=matched_of Go.Proofs.Try.func44 (by kernel_rfl) Go.Proofs.Try.call44
theorem q45:Matched Go.Proofs.Try.prog 45 a45:=matched_of Go.Proofs.Try.func45 (by kernel_rfl) Go.Proofs.Try.call45
theorem q46:Matched Go.Proofs.Try.prog 46 a46:=matched_of Go.Proofs.Try.func46 (by kernel_rfl) Go.Proofs.Try.call46
theorem q47:Matched Go.Proofs.Try.prog 47 a47:=matched_of Go.Proofs.Try.func47 (by kernel_rfl) Go.Proofs.Try.call47
theorem q48:Matched Go.Proofs.Try.prog 48 a48:=matched_of Go.Proofs.Try.func48 (by kernel_rfl) Go.Proofs.Try.call48
theorem q50:Matched Go.Proofs.Try.prog 50 a50:=matched_of Go.Proofs.Try.func50 (by kernel_rfl) Go.Proofs.Try.call50
theorem q53:Matched Go.Proofs.Try.prog 53 a53:=matched_of Go.Proofs.Try.func53 (by kernel_rfl) Go.Proofs.Try.call53
theorem q56:Matched Go.Proofs.Try.prog 56 a56:=matched_of Go.Proofs.Try.func56 (by kernel_rfl) Go.Proofs.Try.call56
theorem q60:Matched Go.Proofs.Try.prog 60 a60:=matched_of Go.Proofs.Try.func60 (by kernel_rfl) Go.Proofs.Try.call60
theorem q61:Matched Go.Proofs.Try.prog 61 a61:=matched_of Go.Proofs.Try.func61 (by kernel_rfl) Go.Proofs.Try.call61
theorem q62:Matched Go.Proofs.Try.prog 62 a62:=matched_of Go.Proofs.Try.func62 (by kernel_rfl) Go.Proofs.Try.call62
theorem q63:Matched Go.Proofs.Try.prog 63 a63:=matched_of Go.Proofs.Try.func63 (by kernel_rfl) Go.Proofs.Try.call63
theorem q64:Matched Go.Proofs.Try.prog 64 a64:=matched_of Go.Proofs.Try.func64 (by kernel_rfl) Go.Proofs.Try.call64
theorem q65:Matched Go.Proofs.Try.prog 65 a65:=matched_of Go.Proofs.Try.func65 (by kernel_rfl) Go.Proofs.Try.call65
theorem q66:Matched Go.Proofs.Try.prog 66 a66:=matched_of Go.Proofs.Try.func66 (by kernel_rfl) Go.Proofs.Try.call66
theorem q74:Matched Go.Proofs.Try.prog 74 a74:=matched_of Go.Proofs.Try.func74 (by kernel_rfl) Go.Proofs.Try.call74
theorem q75:Matched Go.Proofs.Try.prog 75 a75:=matched_of Go.Proofs.Try.func75 (by kernel_rfl) Go.Proofs.Try.call75
theorem q81:Matched Go.Proofs.Try.prog 81 a81:=matched_of Go.Proofs.Try.func81 (by kernel_rfl) Go.Proofs.Try.call81
theorem q82:Matched Go.Proofs.Try.prog 82 a82:=matched_of Go.Proofs.Try.func82 (by kernel_rfl) Go.Proofs.Try.call82
theorem q83:Matched Go.Proofs.Try.prog 83 a83:=matched_of Go.Proofs.Try.func83 (by kernel_rfl) Go.Proofs.Try.call83
theorem q84:Matched Go.Proofs.Try.prog 84 a84:=matched_of Go.Proofs.Try.func84 (by kernel_rfl) Go.Proofs.Try.call84
theorem q85:Matched Go.Proofs.Try.prog 85 a85:=matched_of Go.Proofs.Try.func85 (by kernel_rfl) Go.Proofs.Try.call85
theorem q86:Matched Go.Proofs.Try.prog 86 a86:=matched_of Go.Proofs.Try.func86 (by kernel_rfl) Go.Proofs.Try.call86
theorem q87:Matched Go.Proofs.Try.prog 87 a87:=matched_of Go.Proofs.Try.func87 (by kernel_rfl) Go.Proofs.Try.call87
theorem q88:Matched Go.Proofs.Try.prog 88 a88:=matched_of Go.Proofs.Try.func88 (by kernel_rfl) Go.Proofs.Try.call88
theorem q89:Matched Go.Proofs.Try.prog 89 a89:=matched_of Go.Proofs.Try.func89 (by kernel_rfl) Go.Proofs.Try.call89
theorem q90:Matched Go.Proofs.Try.prog 90 a90:=matched_of Go.Proofs.Try.func90 (by kernel_rfl) Go.Proofs.Try.call90
theorem q91:Matched Go.Proofs.Try.prog 91 a91:=matched_of Go.Proofs.Try.func91 (by kernel_rfl) Go.Proofs.Try.call91
theorem q99:Matched Go.Proofs.Try.prog 99 a99:=matched_of Go.Proofs.Try.func99 (by kernel_rfl) Go.Proofs.Try.call99
theorem q100:Matched Go.Proofs.Try.prog 100 a100:=matched_of Go.Proofs.Try.func100 (by kernel_rfl) Go.Proofs.Try.call100
theorem q101:Matched Go.Proofs.Try.prog 101 a101:=matched_of Go.Proofs.Try.func101 (by kernel_rfl) Go.Proofs.Try.call101
theorem q102:Matched Go.Proofs.Try.prog 102 a102:=matched_of Go.Proofs.Try.func102 (by kernel_rfl) Go.Proofs.Try.call102
theorem q104:Matched Go.Proofs.Try.prog 104 a104:=matched_of Go.Proofs.Try.func104 (by kernel_rfl) Go.Proofs.Try.call104
theorem q105:Matched Go.Proofs.Try.prog 105 a105:=matched_of Go.Proofs.Try.func105 (by kernel_rfl) Go.Proofs.Try.call105
theorem q106:Matched Go.Proofs.Try.prog 106 a106:=matched_of Go.Proofs.Try.func106 (by kernel_rfl) Go.Proofs.Try.call106
theorem q107:Matched Go.Proofs.Try.prog 107 a107:=matched_of Go.Proofs.Try.func107 (by kernel_rfl) Go.Proofs.Try.call107
theorem q108:Matched Go.Proofs.Try.prog 108 a108:=matched_of Go.Proofs.Try.func108 (by kernel_rfl) Go.Proofs.Try.call108
theorem q109:Matched Go.Proofs.Try.prog 109 a109:=matched_of Go.Proofs.Try.func109 (by kernel_rfl) Go.Proofs.Try.call109
theorem q110:Matched Go.Proofs.Try.prog 110 a110:=matched_of Go.Proofs.Try.func110 (by kernel_rfl) Go.Proofs.Try.call110
theorem q111:Matched Go.Proofs.Try.prog 111 a111:=matched_of Go.Proofs.Try.func111 (by kernel_rfl) Go.Proofs.Try.call111
theorem q112:Matched Go.Proofs.Try.prog 112 a112:=matched_of Go.Proofs.Try.func112 (by kernel_rfl) Go.Proofs.Try.call112
theorem q113:Matched Go.Proofs.Try.prog 113 a113:=matched_of Go.Proofs.Try.func113 (by kernel_rfl) Go.Proofs.Try.call113
theorem q114:Matched Go.Proofs.Try.prog 114 a114:=matched_of Go.Proofs.Try.func114 (by kernel_rfl) Go.Proofs.Try.call114
theorem q115:Matched Go.Proofs.Try.prog 115 a115:=matched_of Go.Proofs.Try.func115 (by kernel_rfl) Go.Proofs.Try.call115
theorem q116:Matched Go.Proofs.Try.prog 116 a116:=matched_of Go.Proofs.Try.func116 (by kernel_rfl) Go.Proofs.Try.call116
theorem q117:Matched Go.Proofs.Try.prog 117 a117:=matched_of Go.Proofs.Try.func117 (by kernel_rfl) Go.Proofs.Try.call117
theorem q118:Matched Go.Proofs.Try.prog 118 a118:=matched_of Go.Proofs.Try.func118 (by kernel_rfl) Go.Proofs.Try.call118
theorem q119:Matched Go.Proofs.Try.prog 119 a119:=matched_of Go.Proofs.Try.func119 (by kernel_rfl) Go.Proofs.Try.call119
theorem q120:Matched Go.Proofs.Try.prog 120 a120:=matched_of Go.Proofs.Try.func120 (by kernel_rfl) Go.Proofs.Try.call120
theorem q121:Matched Go.Proofs.Try.prog 121 a121:=matched_of Go.Proofs.Try.func121 (by kernel_rfl) Go.Proofs.Try.call121
theorem q122:Matched Go.Proofs.Try.prog 122 a122:=matched_of Go.Proofs.Try.func122 (by kernel_rfl) Go.Proofs.Try.call122
theorem q123:Matched Go.Proofs.Try.prog 123 a123:=matched_of Go.Proofs.Try.func123 (by kernel_rfl) Go.Proofs.Try.call123
theorem q124:Matched Go.Proofs.Try.prog 124 a124:=matched_of Go.Proofs.Try.func124 (by kernel_rfl) Go.Proofs.Try.call124
theorem q125:Matched Go.Proofs.Try.prog 125 a125:=matched_of Go.Proofs.Try.func125 (by kernel_rfl) Go.Proofs.Try.call125
theorem q126:Matched Go.Proofs.Try.prog 126 a126:=matched_of Go.Proofs.Try.func126 (by kernel_rfl) Go.Proofs.Try.call126
theorem q136:Matched Go.Proofs.Try.prog 136 a136:=matched_of Go.Proofs.Try.func136 (by kernel_rfl) Go.Proofs.Try.call136
theorem q137:Matched Go.Proofs.Try.prog 137 a137:=matched_of Go.Proofs.Try.func137 (by kernel_rfl) Go.Proofs.Try.call137
theorem q138:Matched Go.Proofs.Try.prog 138 a138:=matched_of Go.Proofs.Try.func138 (by kernel_rfl) Go.Proofs.Try.call138
theorem q139:Matched Go.Proofs.Try.prog 139 a139:=matched_of Go.Proofs.Try.func139 (by kernel_rfl) Go.Proofs.Try.call139
theorem q140:Matched Go.Proofs.Try.prog 140 a140:=matched_of Go.Proofs.Try.func140 (by kernel_rfl) Go.Proofs.Try.call140
theorem q141:Matched Go.Proofs.Try.prog 141 a141:=matched_of Go.Proofs.Try.func141 (by kernel_rfl) Go.Proofs.Try.call141
theorem q142:Matched Go.Proofs.Try.prog 142 a142:=matched_of Go.Proofs.Try.func142 (by kernel_rfl) Go.Proofs.Try.call142
theorem q143:Matched Go.Proofs.Try.prog 143 a143:=matched_of Go.Proofs.Try.func143 (by kernel_rfl) Go.Proofs.Try.call143
theorem q144:Matched Go.Proofs.Try.prog 144 a144:=matched_of Go.Proofs.Try.func144 (by kernel_rfl) Go.Proofs.Try.call144
theorem q145:Matched Go.Proofs.Try.prog 145 a145:=matched_of Go.Proofs.Try.func145 (by kernel_rfl) Go.Proofs.Try.call145
theorem q146:Matched Go.Proofs.Try.prog 146 a146:=matched_of Go.Proofs.Try.func146 (by kernel_rfl) Go.Proofs.Try.call146
theorem q147:Matched Go.Proofs.Try.prog 147 a147:=matched_of Go.Proofs.Try.func147 (by kernel_rfl) Go.Proofs.Try.call147
theorem q148:Matched Go.Proofs.Try.prog 148 a148:=matched_of Go.Proofs.Try.func148 (by kernel_rfl) Go.Proofs.Try.call148
theorem q149:Matched Go.Proofs.Try.prog 149 a149:=matched_of Go.Proofs.Try.func149 (by kernel_rfl) Go.Proofs.Try.call149
theorem q150:Matched Go.Proofs.Try.prog 150 a150:=matched_of Go.Proofs.Try.func150 (by kernel_rfl) Go.Proofs.Try.call150
theorem q151:Matched Go.Proofs.Try.prog 151 a151:=matched_of Go.Proofs.Try.func151 (by kernel_rfl) Go.Proofs.Try.call151
theorem q152:Matched Go.Proofs.Try.prog 152 a152:=matched_of Go.Proofs.Try.func152 (by kernel_rfl) Go.Proofs.Try.call152
theorem q153:Matched Go.Proofs.Try.prog 153 a153:=matched_of Go.Proofs.Try.func153 (by kernel_rfl) Go.Proofs.Try.call153
theorem q154:Matched Go.Proofs.Try.prog 154 a154:=matched_of Go.Proofs.Try.func154 (by kernel_rfl) Go.Proofs.Try.call154
theorem q155:Matched Go.Proofs.Try.prog 155 a155:=matched_of Go.Proofs.Try.func155 (by kernel_rfl) Go.Proofs.Try.call155
theorem q163:Matched Go.Proofs.Try.prog 163 a163:=matched_of Go.Proofs.Try.func163 (by kernel_rfl) Go.Proofs.Try.call163
theorem q164:Matched Go.Proofs.Try.prog 164 a164:=matched_of Go.Proofs.Try.func164 (by kernel_rfl) Go.Proofs.Try.call164
theorem q165:Matched Go.Proofs.Try.prog 165 a165:=matched_of Go.Proofs.Try.func165 (by kernel_rfl) Go.Proofs.Try.call165
theorem q166:Matched Go.Proofs.Try.prog 166 a166:=matched_of Go.Proofs.Try.func166 (by kernel_rfl) Go.Proofs.Try.call166
theorem q167:Matched Go.Proofs.Try.prog 167 a167:=matched_of Go.Proofs.Try.func167 (by kernel_rfl) Go.Proofs.Try.call167
theorem q169:Matched Go.Proofs.Try.prog 169 a169:=matched_of Go.Proofs.Try.func169 (by kernel_rfl) Go.Proofs.Try.call169
theorem allM:AllM (Matched Go.Proofs.Try.prog) prog (fun k=>k):=⟨trivial,⟨trivial,⟨trivial,⟨trivial,⟨trivial,⟨trivial,⟨q63,trivial,trivial⟩,trivial⟩,⟨q47,⟨trivial,⟨q143,trivial,trivial⟩,trivial⟩,⟨q111,trivial,trivial⟩⟩⟩,⟨trivial,⟨trivial,trivial,⟨trivial,⟨q167,trivial,trivial⟩,trivial⟩⟩,⟨trivial,⟨q87,⟨q151,trivial,trivial⟩,trivial⟩,⟨q119,trivial,trivial⟩⟩⟩⟩,⟨q11,⟨trivial,⟨trivial,trivial,⟨q99,⟨q163,trivial,trivial⟩,trivial⟩⟩,⟨trivial,⟨q83,⟨q147,trivial,trivial⟩,trivial⟩,⟨q115,trivial,trivial⟩⟩⟩,⟨trivial,⟨q43,⟨q75,⟨q139,trivial,trivial⟩,trivial⟩,⟨q107,trivial,trivial⟩⟩,⟨trivial,⟨q91,⟨q155,trivial,trivial⟩,trivial⟩,⟨q123,trivial,trivial⟩⟩⟩⟩⟩,⟨trivial,⟨trivial,⟨trivial,⟨trivial,⟨q65,trivial,trivial⟩,trivial⟩,⟨trivial,⟨q81,⟨q145,trivial,trivial⟩,trivial⟩,⟨q113,trivial,trivial⟩⟩⟩,⟨trivial,⟨q41,⟨trivial,⟨q137,trivial,trivial⟩,trivial⟩,⟨q105,⟨q169,trivial,trivial⟩,trivial⟩⟩,⟨trivial,⟨q89,⟨q153,trivial,trivial⟩,trivial⟩,⟨q121,trivial,trivial⟩⟩⟩⟩,⟨trivial,⟨trivial,⟨trivial,trivial,⟨q101,⟨q165,trivial,trivial⟩,trivial⟩⟩,⟨q53,⟨q85,⟨q149,trivial,trivial⟩,trivial⟩,⟨q117,trivial,trivial⟩⟩⟩,⟨trivial,⟨q45,⟨trivial,⟨q141,trivial,trivial⟩,trivial⟩,⟨q109,trivial,trivial⟩⟩,⟨q61,trivial,⟨q125,trivial,trivial⟩⟩⟩⟩⟩⟩,⟨trivial,⟨trivial,⟨trivial,⟨trivial,⟨trivial,⟨q64,trivial,trivial⟩,trivial⟩,⟨q48,⟨trivial,⟨q144,trivial,trivial⟩,trivial⟩,⟨q112,trivial,trivial⟩⟩⟩,⟨trivial,⟨trivial,⟨trivial,⟨q136,trivial,trivial⟩,trivial⟩,⟨q104,trivial,trivial⟩⟩,⟨q56,⟨q88,⟨q152,trivial,trivial⟩,trivial⟩,⟨q120,trivial,trivial⟩⟩⟩⟩,⟨trivial,⟨trivial,⟨q36,trivial,⟨q100,⟨q164,trivial,trivial⟩,trivial⟩⟩,⟨trivial,⟨q84,⟨q148,trivial,trivial⟩,trivial⟩,⟨q116,trivial,trivial⟩⟩⟩,⟨trivial,⟨q44,⟨trivial,⟨q140,trivial,trivial⟩,trivial⟩,⟨q108,trivial,trivial⟩⟩,⟨q60,trivial,⟨q124,trivial,trivial⟩⟩⟩⟩⟩,⟨trivial,⟨trivial,⟨trivial,⟨trivial,⟨q66,trivial,trivial⟩,trivial⟩,⟨q50,⟨q82,⟨q146,trivial,trivial⟩,trivial⟩,⟨q114,trivial,trivial⟩⟩⟩,⟨trivial,⟨trivial,⟨q74,⟨q138,trivial,trivial⟩,trivial⟩,⟨q106,trivial,trivial⟩⟩,⟨trivial,⟨q90,⟨q154,trivial,trivial⟩,trivial⟩,⟨q122,trivial,trivial⟩⟩⟩⟩,⟨trivial,⟨trivial,⟨trivial,trivial,⟨q102,⟨q166,trivial,trivial⟩,trivial⟩⟩,⟨trivial,⟨q86,⟨q150,trivial,trivial⟩,trivial⟩,⟨q118,trivial,trivial⟩⟩⟩,⟨trivial,⟨q46,⟨trivial,⟨q142,trivial,trivial⟩,trivial⟩,⟨q110,trivial,trivial⟩⟩,⟨q62,trivial,⟨q126,trivial,trivial⟩⟩⟩⟩⟩⟩⟩
theorem fnOk (k:Nat):FnOk Go.Proofs.Try.prog (interp prog k).fn:=(interp_ok hmx (fun f af h=>allM_get prog (fun k=>k) allM f af h) k).2.2
end Go.Ax.TryLr
