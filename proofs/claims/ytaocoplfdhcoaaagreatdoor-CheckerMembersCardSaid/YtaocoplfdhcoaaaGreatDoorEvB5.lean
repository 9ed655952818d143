/- The types of this program, by number. -/
import Derived.Test.YtaocoplfdhcoaaaGreatDoorEvB
namespace Go.Proofs.YtaocoplfdhcoaaaGreatDoor.EvA
open Go Go.RowKit Go.Proofs.YtaocoplfdhcoaaaGreatDoor.Ev
theorem ty2 : E.tt.get 2 = some i2 := rfl
theorem si2 : szE E 2 = some 1 := rfl
theorem ty3 : E.tt.get 3 = some i3 := rfl
theorem si3 : szE E 3 = some 1 := rfl
theorem ty4 : E.tt.get 4 = some i4 := rfl
theorem si4 : szE E 4 = some 1 := rfl
theorem ty5 : E.tt.get 5 = some i5 := rfl
theorem si5 : szE E 5 = some 1 := rfl
theorem ty9 : E.tt.get 9 = some i9 := rfl
theorem si9 : szE E 9 = some 1 := rfl
theorem ty10 : E.tt.get 10 = some i10 := rfl
theorem si10 : szE E 10 = some 1 := rfl
theorem ty21 : E.tt.get 21 = some i21 := rfl
theorem si21 : szE E 21 = some 1 := rfl
theorem ty22 : E.tt.get 22 = some i22 := rfl
theorem si22 : szE E 22 = some 1 := rfl
theorem ty23 : E.tt.get 23 = some i23 := rfl
theorem si23 : szE E 23 = some 1 := rfl
theorem ty24 : E.tt.get 24 = some i24 := rfl
theorem si24 : szE E 24 = some 1 := rfl
theorem ty25 : E.tt.get 25 = some i25 := rfl
theorem si25 : szE E 25 = some 1 := rfl
theorem ty29 : E.tt.get 29 = some i29 := rfl
theorem si29 : szE E 29 = some 1 := rfl
theorem ty32 : E.tt.get 32 = some i32 := rfl
theorem si32 : szE E 32 = some 2 := rfl
theorem ty40 : E.tt.get 40 = some i40 := rfl
theorem si40 : szE E 40 = some 1 := rfl
theorem ty42 : E.tt.get 42 = some i42 := rfl
theorem si42 : szE E 42 = some 2 := rfl
theorem ty44 : E.tt.get 44 = some i44 := rfl
theorem si44 : szE E 44 = some 2 := rfl
theorem ty47 : E.tt.get 47 = some i47 := rfl
theorem si47 : szE E 47 = some 2 := rfl
theorem ty49 : E.tt.get 49 = some i49 := rfl
theorem si49 : szE E 49 = some 1 := rfl
theorem ty51 : E.tt.get 51 = some i51 := rfl
theorem si51 : szE E 51 = some 2 := rfl
theorem ty52 : E.tt.get 52 = some i52 := rfl
theorem si52 : szE E 52 = some 1 := rfl
theorem ty53 : E.tt.get 53 = some i53 := rfl
theorem si53 : szE E 53 = some 1 := rfl
theorem ty54 : E.tt.get 54 = some i54 := rfl
theorem si54 : szE E 54 = some 1 := rfl
theorem ty58 : E.tt.get 58 = some i58 := rfl
theorem si58 : szE E 58 = some 1 := rfl
theorem ty63 : E.tt.get 63 = some i63 := rfl
theorem si63 : szE E 63 = some 3 := rfl
theorem ty71 : E.tt.get 71 = some i71 := rfl
theorem si71 : szE E 71 = some 1 := rfl
theorem ty73 : E.tt.get 73 = some i73 := rfl
theorem si73 : szE E 73 = some 3 := rfl
theorem ty77 : E.tt.get 77 = some i77 := rfl
theorem si77 : szE E 77 = some 3 := rfl
theorem ty82 : E.tt.get 82 = some i82 := rfl
theorem si82 : szE E 82 = some 1 := rfl
theorem ty83 : E.tt.get 83 = some i83 := rfl
theorem si83 : szE E 83 = some 18 := rfl
theorem ty84 : E.tt.get 84 = some i84 := rfl
theorem si84 : szE E 84 = some 3 := rfl
theorem ty85 : E.tt.get 85 = some i85 := rfl
theorem si85 : szE E 85 = some 18 := rfl
theorem ty87 : E.tt.get 87 = some i87 := rfl
theorem si87 : szE E 87 = some 42 := rfl
theorem ty88 : E.tt.get 88 = some i88 := rfl
theorem si88 : szE E 88 = some 1 := rfl
theorem ty90 : E.tt.get 90 = some i90 := rfl
theorem si90 : szE E 90 = some 4 := rfl
theorem ty96 : E.tt.get 96 = some i96 := rfl
theorem si96 : szE E 96 = some 1 := rfl
theorem ty98 : E.tt.get 98 = some i98 := rfl
theorem si98 : szE E 98 = some 1 := rfl
theorem ty100 : E.tt.get 100 = some i100 := rfl
theorem si100 : szE E 100 = some 5 := rfl
theorem ty107 : E.tt.get 107 = some i107 := rfl
theorem si107 : szE E 107 = some 9 := rfl
theorem ty115 : E.tt.get 115 = some i115 := rfl
theorem si115 : szE E 115 = some 3 := rfl
theorem ty117 : E.tt.get 117 = some i117 := rfl
theorem si117 : szE E 117 = some 1 := rfl
theorem ty119 : E.tt.get 119 = some i119 := rfl
theorem si119 : szE E 119 = some 3 := rfl
theorem ty136 : E.tt.get 136 = some i136 := rfl
theorem si136 : szE E 136 = some 2 := rfl
theorem ty137 : E.tt.get 137 = some i137 := rfl
theorem si137 : szE E 137 = some 16 := rfl
theorem ty138 : E.tt.get 138 = some i138 := rfl
theorem si138 : szE E 138 = some 2 := rfl
theorem ty139 : E.tt.get 139 = some i139 := rfl
theorem si139 : szE E 139 = some 16 := rfl
theorem ty141 : E.tt.get 141 = some i141 := rfl
theorem si141 : szE E 141 = some 37 := rfl
theorem ty142 : E.tt.get 142 = some i142 := rfl
theorem si142 : szE E 142 = some 1 := rfl
theorem ty145 : E.tt.get 145 = some i145 := rfl
theorem si145 : szE E 145 = some 6 := rfl
theorem ty154 : E.tt.get 154 = some i154 := rfl
theorem si154 : szE E 154 = some 1 := rfl
theorem ty169 : E.tt.get 169 = some i169 := rfl
theorem si169 : szE E 169 = some 1 := rfl
theorem ty171 : E.tt.get 171 = some i171 := rfl
theorem si171 : szE E 171 = some 2 := rfl
theorem ty178 : E.tt.get 178 = some i178 := rfl
theorem si178 : szE E 178 = some 1 := rfl
theorem ty183 : E.tt.get 183 = some i183 := rfl
theorem si183 : szE E 183 = some 1 := rfl
theorem ty190 : E.tt.get 190 = some i190 := rfl
theorem si190 : szE E 190 = some 3 := rfl
theorem ty213 : E.tt.get 213 = some i213 := rfl
theorem si213 : szE E 213 = some 4 := rfl
theorem ty218 : E.tt.get 218 = some i218 := rfl
theorem si218 : szE E 218 = some 2 := rfl
theorem ty224 : E.tt.get 224 = some i224 := rfl
theorem si224 : szE E 224 = some 2 := rfl
theorem ty227 : E.tt.get 227 = some i227 := rfl
theorem si227 : szE E 227 = some 2 := rfl
theorem ty231 : E.tt.get 231 = some i231 := rfl
theorem si231 : szE E 231 = some 1 := rfl
theorem ty240 : E.tt.get 240 = some i240 := rfl
theorem si240 : szE E 240 = some 1 := rfl
theorem ty245 : E.tt.get 245 = some i245 := rfl
theorem si245 : szE E 245 = some 1 := rfl
theorem ty247 : E.tt.get 247 = some i247 := rfl
theorem si247 : szE E 247 = some 1 := rfl
theorem ty272 : E.tt.get 272 = some i272 := rfl
theorem si272 : szE E 272 = some 1 := rfl
theorem ty275 : E.tt.get 275 = some i275 := rfl
theorem si275 : szE E 275 = some 2 := rfl
theorem ty276 : E.tt.get 276 = some i276 := rfl
theorem si276 : szE E 276 = some 1 := rfl
theorem ty283 : E.tt.get 283 = some i283 := rfl
theorem si283 : szE E 283 = some 1 := rfl
theorem ty284 : E.tt.get 284 = some i284 := rfl
theorem si284 : szE E 284 = some 1 := rfl
theorem ty294 : E.tt.get 294 = some i294 := rfl
theorem si294 : szE E 294 = some 1 := rfl
theorem ty299 : E.tt.get 299 = some i299 := rfl
theorem si299 : szE E 299 = some 1 := rfl
theorem ty306 : E.tt.get 306 = some i306 := rfl
theorem si306 : szE E 306 = some 1 := rfl
theorem ty313 : E.tt.get 313 = some i313 := rfl
theorem si313 : szE E 313 = some 1 := rfl
theorem ty320 : E.tt.get 320 = some i320 := rfl
theorem si320 : szE E 320 = some 1 := rfl
theorem ty323 : E.tt.get 323 = some i323 := rfl
theorem si323 : szE E 323 = some 11 := rfl
theorem ty333 : E.tt.get 333 = some i333 := rfl
theorem si333 : szE E 333 = some 1 := rfl
theorem ty335 : E.tt.get 335 = some i335 := rfl
theorem si335 : szE E 335 = some 3 := rfl
theorem ty340 : E.tt.get 340 = some i340 := rfl
theorem si340 : szE E 340 = some 4 := rfl
theorem ty371 : E.tt.get 371 = some i371 := rfl
theorem si371 : szE E 371 = some 1 := rfl
theorem ty381 : E.tt.get 381 = some i381 := rfl
theorem si381 : szE E 381 = some 1 := rfl
theorem ty382 : E.tt.get 382 = some i382 := rfl
theorem si382 : szE E 382 = some 1 := rfl
theorem ty385 : E.tt.get 385 = some i385 := rfl
theorem si385 : szE E 385 = some 1 := rfl
theorem ty391 : E.tt.get 391 = some i391 := rfl
theorem si391 : szE E 391 = some 1 := rfl
theorem ty413 : E.tt.get 413 = some i413 := rfl
theorem si413 : szE E 413 = some 1 := rfl
theorem ty414 : E.tt.get 414 = some i414 := rfl
theorem si414 : szE E 414 = some 1 := rfl
theorem ty417 : E.tt.get 417 = some i417 := rfl
theorem si417 : szE E 417 = some 3 := rfl
theorem ty423 : E.tt.get 423 = some i423 := rfl
theorem si423 : szE E 423 = some 1 := rfl
theorem ty430 : E.tt.get 430 = some i430 := rfl
theorem si430 : szE E 430 = some 24 := rfl
theorem ty441 : E.tt.get 441 = some i441 := rfl
theorem si441 : szE E 441 = some 3 := rfl
theorem ty461 : E.tt.get 461 = some i461 := rfl
theorem si461 : szE E 461 = some 20 := rfl
theorem ty465 : E.tt.get 465 = some i465 := rfl
theorem si465 : szE E 465 = some 1 := rfl
theorem ty467 : E.tt.get 467 = some i467 := rfl
theorem si467 : szE E 467 = some 1 := rfl
theorem ty474 : E.tt.get 474 = some i474 := rfl
theorem si474 : szE E 474 = some 32 := rfl
theorem ty475 : E.tt.get 475 = some i475 := rfl
theorem si475 : szE E 475 = some 64 := rfl
end Go.Proofs.YtaocoplfdhcoaaaGreatDoor.EvA
