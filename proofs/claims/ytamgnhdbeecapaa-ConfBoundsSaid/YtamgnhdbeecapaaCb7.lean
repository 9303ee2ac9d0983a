/- Part 7 of the proof: LbOk. -/
import Derived.Test.YtamgnhdbeecapaaCb0
import Derived.Test.YtamgnhdbeecapaaCb4
import Derived.Test.YtamgnhdbeecapaaProg
import Derived.KernelRfl

namespace Go.Ax.TryLb
open Go Go.Ax
theorem hmx:Go.Proofs.Try.prog.follows .mixedOrders=true:=by kernel_rfl
theorem q6:Matched Go.Proofs.Try.prog 6 a6:=matched_of Go.Proofs.Try.func6 (by kernel_rfl) Go.Proofs.Try.call6
theorem q20:Matched Go.Proofs.Try.prog 20 a20:=matched_of Go.Proofs.Try.func20 (by kernel_rfl) Go.Proofs.Try.call20
theorem q22:Matched Go.Proofs.Try.prog 22 a22:=matched_of Go.Proofs.Try.func22 (by kernel_rfl) Go.Proofs.Try.call22
theorem q26:Matched Go.Proofs.Try.prog 26 a26:=matched_of Go.Proofs.Try.func26 (by kernel_rfl) Go.Proofs.Try.call26
theorem q27:Matched Go.Proofs.Try.prog 27 a27:=matched_of Go.Proofs.Try.func27 (by kernel_rfl) Go.Proofs.Try.call27
theorem q28:Matched Go.Proofs.Try.prog 28 a28:=matched_of Go.Proofs.Try.func28 (by kernel_rfl) Go.Proofs.Try.call28
theorem q29:Matched Go.Proofs.Try.prog 29 a29:=matched_of Go.Proofs.Try.func29 (by kernel_rfl) Go.Proofs.Try.call29
theorem q31:Matched Go.Proofs.Try.prog 31 a31:=matched_of Go.Proofs.Try.func31 (by kernel_rfl) Go.Proofs.Try.call31
theorem q41:Matched Go.Proofs.Try.prog 41 a41:=matched_of Go.Proofs.Try.func41 (by kernel_rfl) Go.Proofs.Try.call41
theorem q50:Matched Go.Proofs.Try.prog 50 a50:=matched_of Go.Proofs.Try.func50 (by kernel_rfl) Go.Proofs.Try.call50
theorem q53:Matched Go.Proofs.Try.prog 53 a53:=matched_of Go.Proofs.Try.func53 (by kernel_rfl) Go.Proofs.Try.call53
theorem q54:Matched Go.Proofs.Try.prog 54 a54:=matched_of Go.Proofs.Try.func54 (by kernel_rfl) Go.Proofs.Try.call54
theorem q56:Matched Go.Proofs.Try.prog 56 a56:=matched_of Go.Proofs.Try.func56 (by kernel_rfl) Go.Proofs.Try.call56
theorem q57:Matched Go.Proofs.Try.prog 57 a57:=matched_of Go.Proofs.Try.func57 (by kernel_rfl) Go.Proofs.Try.call57
theorem q60:Matched Go.Proofs.Try.prog 60 a60:=matched_of Go.Proofs.Try.func60 (by kernel_rfl) Go.Proofs.Try.call60
theorem q74:Matched Go.Proofs.Try.prog 74 a74:=matched_of Go.Proofs.Try.func74 (by kernel_rfl) Go.Proofs.Try.call74
theorem q75:Matched Go.Proofs.Try.prog 75 a75:=matched_of Go.Proofs.Try.func75 (by kernel_rfl) Go.Proofs.Try.call75
theorem q76:Matched Go.Proofs.Try.prog 76 a76:=matched_of Go.Proofs.Try.func76 (by kernel_rfl) Go.Proofs.Try.call76
theorem q77:Matched Go.Proofs.Try.prog 77 a77:=matched_of Go.Proofs.Try.func77 (by kernel_rfl) Go.Proofs.Try.call77
theorem q78:Matched Go.Proofs.Try.prog 78 a78:=matched_of Go.Proofs.Try.func78 (by kernel_rfl) Go.Proofs.Try.call78
theorem q79:Matched Go.Proofs.Try.prog 79 a79:=matched_of Go.Proofs.Try.func79 (by kernel_rfl) Go.Proofs.Try.call79
theorem q81:Matched Go.Proofs.Try.prog 81 a81:=matched_of Go.Proofs.Try.func81 (by kernel_rfl) Go.Proofs.Try.call81
theorem q82:Matched Go.Proofs.Try.prog 82 a82:=matched_of Go.Proofs.Try.func82 (by kernel_rfl) Go.Proofs.Try.call82
theorem q83:Matched Go.Proofs.Try.prog 83 a83:=matched_of Go.Proofs.Try.func83 (by kernel_rfl) Go.Proofs.Try.call83
theorem q99:Matched Go.Proofs.Try.prog 99 a99:=matched_of Go.Proofs.Try.func99 (by kernel_rfl) Go.Proofs.Try.call99
theorem q100:Matched Go.Proofs.Try.prog 100 a100:=matched_of Go.Proofs.Try.func100 (by kernel_rfl) Go.Proofs.Try.call100
theorem q101:Matched Go.Proofs.Try.prog 101 a101:=matched_of Go.Proofs.Try.func101 (by kernel_rfl) Go.Proofs.Try.call101
theorem q102:Matched Go.Proofs.Try.prog 102 a102:=matched_of Go.Proofs.Try.func102 (by kernel_rfl) Go.Proofs.Try.call102
theorem q104:Matched Go.Proofs.Try.prog 104 a104:=matched_of Go.Proofs.Try.func104 (by kernel_rfl) Go.Proofs.Try.call104
theorem q105:Matched Go.Proofs.Try.prog 105 a105:=matched_of Go.Proofs.Try.func105 (by kernel_rfl) Go.Proofs.Try.call105
theorem q106:Matched Go.Proofs.Try.prog 106 a106:=matched_of Go.Proofs.Try.func106 (by kernel_rfl) Go.Proofs.Try.call106
theorem q107:Matched Go.Proofs.Try.prog 107 a107:=matched_of Go.Proofs.Try.func107 (by kernel_rfl) Go.Proofs.Try.call107
theorem q109:Matched Go.Proofs.Try.prog 109 a109:=matched_of Go.Proofs.Try.func109 (by kernel_rfl) Go.Proofs.Try.call109
theorem q136:Matched Go.Proofs.Try.prog 136 a136:=matched_of Go.Proofs.Try.func136 (by kernel_rfl) Go.Proofs.Try.call136
theorem q137:Matched Go.Proofs.Try.prog 137 a137:=matched_of Go.Proofs.Try.func137 (by kernel_rfl) Go.Proofs.Try.call137
theorem q138:Matched Go.Proofs.Try.prog 138 a138:=matched_of Go.Proofs.Try.func138 (by kernel_rfl) Go.Proofs.Try.call138
theorem q139:Matched Go.Proofs.Try.prog 139 a139:=matched_of Go.Proofs.Try.func139 (by kernel_rfl) Go.Proofs.Try.call139
theorem q140:Matched Go.Proofs.Try.prog 140 a140:=matched_of Go.Proofs.Try.func140 (by kernel_rfl) Go.Proofs.Try.call140
theorem q141:Matched Go.Proofs.Try.prog 141 a141:=matched_of Go.Proofs.Try.func141 (by kernel_rfl) Go.Proofs.Try.call141
theorem q142:Matched Go.Proofs.Try.prog 142 a142:=matched_of Go.Proofs.Try.func142 (by kernel_rfl) Go.Proofs.Try.call142
theorem q143:Matched Go.Proofs.Try.prog 143 a143:=matched_of Go.Proofs.Try.func143 (by kernel_rfl) Go.Proofs.Try.call143
theorem q144:Matched Go.Proofs.Try.prog 144 a144:=matched_of Go.Proofs.Try.func144 (by kernel_rfl) Go.Proofs.Try.call144
theorem q145:Matched Go.Proofs.Try.prog 145 a145:=matched_of Go.Proofs.Try.func145 (by kernel_rfl) Go.Proofs.Try.call145
theorem q146:Matched Go.Proofs.Try.prog 146 a146:=matched_of Go.Proofs.Try.func146 (by kernel_rfl) Go.Proofs.Try.call146
theorem q147:Matched Go.Proofs.Try.prog 147 a147:=matched_of Go.Proofs.Try.func147 (by kernel_rfl) Go.Proofs.Try.call147
theorem q148:Matched Go.Proofs.Try.prog 148 a148:=matched_of Go.Proofs.Try.func148 (by kernel_rfl) Go.Proofs.Try.call148
theorem q149:Matched Go.Proofs.Try.prog 149 a149:=matched_of Go.Proofs.Try.func149 (by kernel_rfl) Go.Proofs.Try.call149
theorem q163:Matched Go.Proofs.Try.prog 163 a163:=matched_of Go.Proofs.Try.func163 (by kernel_rfl) Go.Proofs.Try.call163
theorem q164:Matched Go.Proofs.Try.prog 164 a164:=matched_of Go.Proofs.Try.func164 (by kernel_rfl) Go.Proofs.Try.call164
theorem q165:Matched Go.Proofs.Try.prog 165 a165:=matched_of Go.Proofs.Try.func165 (by kernel_rfl) Go.Proofs.Try.call165
theorem q166:Matched Go.Proofs.Try.prog 166 a166:=matched_of Go.Proofs.Try.func166 (by kernel_rfl) Go.Proofs.Try.call166
theorem q169:Matched Go.Proofs.Try.prog 169 a169:=matched_of Go.Proofs.Try.func169 (by kernel_rfl) Go.Proofs.Try.call169
theorem allM:AllM (Matched Go.Proofs.Try.prog) prog (fun k=>k):=⟨trivial,⟨trivial,⟨trivial,⟨trivial,⟨trivial,⟨q31,trivial,trivial⟩,⟨trivial,⟨q79,⟨q143,trivial,trivial⟩,trivial⟩,trivial⟩⟩,trivial⟩,⟨trivial,⟨trivial,⟨trivial,trivial,⟨q99,⟨q163,trivial,trivial⟩,trivial⟩⟩,⟨trivial,⟨q83,⟨q147,trivial,trivial⟩,trivial⟩,trivial⟩⟩,⟨q27,⟨trivial,⟨q75,⟨q139,trivial,trivial⟩,trivial⟩,⟨q107,trivial,trivial⟩⟩,trivial⟩⟩⟩,⟨trivial,⟨trivial,⟨trivial,trivial,⟨trivial,⟨q81,⟨q145,trivial,trivial⟩,trivial⟩,trivial⟩⟩,⟨trivial,⟨q41,⟨trivial,⟨q137,trivial,trivial⟩,trivial⟩,⟨q105,⟨q169,trivial,trivial⟩,trivial⟩⟩,⟨q57,trivial,trivial⟩⟩⟩,⟨trivial,⟨trivial,⟨trivial,trivial,⟨q101,⟨q165,trivial,trivial⟩,trivial⟩⟩,⟨q53,⟨trivial,⟨q149,trivial,trivial⟩,trivial⟩,trivial⟩⟩,⟨q29,⟨trivial,⟨q77,⟨q141,trivial,trivial⟩,trivial⟩,⟨q109,trivial,trivial⟩⟩,trivial⟩⟩⟩⟩,⟨trivial,⟨trivial,⟨trivial,⟨trivial,trivial,⟨trivial,⟨trivial,⟨q144,trivial,trivial⟩,trivial⟩,trivial⟩⟩,⟨trivial,⟨trivial,⟨trivial,⟨q136,trivial,trivial⟩,trivial⟩,⟨q104,trivial,trivial⟩⟩,⟨q56,trivial,trivial⟩⟩⟩,⟨trivial,⟨q20,⟨trivial,trivial,⟨q100,⟨q164,trivial,trivial⟩,trivial⟩⟩,⟨trivial,⟨trivial,⟨q148,trivial,trivial⟩,trivial⟩,trivial⟩⟩,⟨q28,⟨trivial,⟨q76,⟨q140,trivial,trivial⟩,trivial⟩,trivial⟩,⟨q60,trivial,trivial⟩⟩⟩⟩,⟨q6,⟨trivial,⟨trivial,trivial,⟨q50,⟨q82,⟨q146,trivial,trivial⟩,trivial⟩,trivial⟩⟩,⟨q26,⟨trivial,⟨q74,⟨q138,trivial,trivial⟩,trivial⟩,⟨q106,trivial,trivial⟩⟩,trivial⟩⟩,⟨trivial,⟨q22,⟨trivial,trivial,⟨q102,⟨q166,trivial,trivial⟩,trivial⟩⟩,⟨q54,trivial,trivial⟩⟩,⟨trivial,⟨trivial,⟨q78,⟨q142,trivial,trivial⟩,trivial⟩,trivial⟩,trivial⟩⟩⟩⟩⟩
theorem fnOk (k:Nat):FnOk Go.Proofs.Try.prog (interp prog k).fn:=(interp_ok hmx (fun f af h=>allM_get prog (fun k=>k) allM f af h) k).2.2
end Go.Ax.TryLb
