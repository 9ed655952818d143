/- Texts of this claim: EvUA. No condition. -/
import Derived.Test.YtaocoplfdhcoaaaGreatDoorSp10
import Derived.Test.YtaocoplfdhcoaaaGreatDoorSp09
namespace Go.Proofs.YtaocoplfdhcoaaaGreatDoor.EvA
open Go Go.Proofs.YtaocoplfdhcoaaaGreatDoor.Ev
theorem ok2 : TOk Tryz.prog 2 i2 := ⟨Tryz.underlying2, Tryz.t2, _, by kernel_rfl, rfl, rfl, rfl, rfl, rfl, rfl⟩
theorem ok3 : TOk Tryz.prog 3 i3 := ⟨Tryz.underlying3, Tryz.t3, _, by kernel_rfl, rfl, rfl, rfl, rfl, rfl, rfl⟩
theorem ok4 : TOk Tryz.prog 4 i4 := ⟨Tryz.underlying4, Tryz.t4, _, by kernel_rfl, rfl, rfl, rfl, rfl, rfl, rfl⟩
theorem ok5 : TOk Tryz.prog 5 i5 := ⟨Tryz.underlying5, Tryz.t5, _, by kernel_rfl, rfl, rfl, rfl, rfl, rfl, rfl⟩
theorem ok9 : TOk Tryz.prog 9 i9 := ⟨Tryz.underlying9, Tryz.t9, _, by kernel_rfl, rfl, rfl, rfl, rfl, rfl, rfl⟩
theorem ok10 : TOk Tryz.prog 10 i10 := ⟨Tryz.underlying10, Tryz.t10, _, by kernel_rfl, rfl, rfl, rfl, rfl, rfl, rfl⟩
theorem ok21 : TOk Tryz.prog 21 i21 := ⟨Tryz.underlying21, Tryz.t21, _, by kernel_rfl, rfl, rfl, rfl, rfl, rfl, rfl⟩
theorem ok22 : TOk Tryz.prog 22 i22 := ⟨Tryz.underlying22, Tryz.t22, _, by kernel_rfl, rfl, rfl, rfl, rfl, rfl, rfl⟩
theorem ok23 : TOk Tryz.prog 23 i23 := ⟨Tryz.underlying23, Tryz.t23, _, by kernel_rfl, rfl, rfl, rfl, rfl, rfl, rfl⟩
theorem ok24 : TOk Tryz.prog 24 i24 := ⟨Tryz.underlying24, Tryz.t24, _, by kernel_rfl, rfl, rfl, rfl, rfl, rfl, rfl⟩
theorem ok25 : TOk Tryz.prog 25 i25 := ⟨Tryz.underlying25, Tryz.t25, _, by kernel_rfl, rfl, rfl, rfl, rfl, rfl, rfl⟩
theorem ok29 : TOk Tryz.prog 29 i29 := ⟨Tryz.underlying29, Tryz.t29, _, by kernel_rfl, rfl, rfl, rfl, rfl, rfl, rfl⟩
theorem ok32 : TOk Tryz.prog 32 i32 := ⟨⟨_, [(0, 1), (1, 1)], Tryz.underlying32, rfl, by kernel_rfl⟩, Tryz.t32, _, by kernel_rfl, rfl, rfl, rfl, rfl, rfl, rfl⟩
theorem ok40 : TOk Tryz.prog 40 i40 := ⟨Tryz.underlying40, Tryz.t40, _, by kernel_rfl, rfl, rfl, rfl, rfl, rfl, rfl⟩
theorem ok42 : TOk Tryz.prog 42 i42 := ⟨⟨_, [(0, 1), (1, 1)], Tryz.underlying42, rfl, by kernel_rfl⟩, Tryz.t42, _, by kernel_rfl, rfl, rfl, rfl, rfl, rfl, rfl⟩
theorem ok44 : TOk Tryz.prog 44 i44 := ⟨⟨_, [(0, 1), (1, 1)], Tryz.underlying44, rfl, by kernel_rfl⟩, Tryz.t44, _, by kernel_rfl, rfl, rfl, rfl, rfl, rfl, rfl⟩
theorem ok47 : TOk Tryz.prog 47 i47 := ⟨⟨_, [(0, 1), (1, 1)], Tryz.underlying47, rfl, by kernel_rfl⟩, Tryz.t47, _, by kernel_rfl, rfl, rfl, rfl, rfl, rfl, rfl⟩
theorem ok49 : TOk Tryz.prog 49 i49 := ⟨Tryz.underlying49, Tryz.t49, _, by kernel_rfl, rfl, rfl, rfl, rfl, rfl, rfl⟩
theorem ok51 : TOk Tryz.prog 51 i51 := ⟨⟨_, [(0, 1), (1, 1)], Tryz.underlying51, rfl, by kernel_rfl⟩, Tryz.t51, _, by kernel_rfl, rfl, rfl, rfl, rfl, rfl, rfl⟩
theorem ok52 : TOk Tryz.prog 52 i52 := ⟨Tryz.underlying52, Tryz.t52, _, by kernel_rfl, rfl, rfl, rfl, rfl, rfl, rfl⟩
theorem ok53 : TOk Tryz.prog 53 i53 := ⟨Tryz.underlying53, Tryz.t53, _, by kernel_rfl, rfl, rfl, rfl, rfl, rfl, rfl⟩
theorem ok54 : TOk Tryz.prog 54 i54 := ⟨Tryz.underlying54, Tryz.t54, _, by kernel_rfl, rfl, rfl, rfl, rfl, rfl, rfl⟩
theorem ok58 : TOk Tryz.prog 58 i58 := ⟨Tryz.underlying58, Tryz.t58, _, by kernel_rfl, rfl, rfl, rfl, rfl, rfl, rfl⟩
theorem ok63 : TOk Tryz.prog 63 i63 := ⟨⟨_, [(0, 1), (1, 1), (2, 1)], Tryz.underlying63, rfl, by kernel_rfl⟩, Tryz.t63, _, by kernel_rfl, rfl, rfl, rfl, rfl, rfl, rfl⟩
theorem ok71 : TOk Tryz.prog 71 i71 := ⟨Tryz.underlying71, Tryz.t71, _, by kernel_rfl, rfl, rfl, rfl, rfl, rfl, rfl⟩
theorem ok73 : TOk Tryz.prog 73 i73 := ⟨⟨_, [(0, 1), (1, 1), (2, 1)], Tryz.underlying73, rfl, by kernel_rfl⟩, Tryz.t73, _, by kernel_rfl, rfl, rfl, rfl, rfl, rfl, rfl⟩
theorem ok77 : TOk Tryz.prog 77 i77 := ⟨⟨_, [(0, 1), (1, 1), (2, 1)], Tryz.underlying77, rfl, by kernel_rfl⟩, Tryz.t77, _, by kernel_rfl, rfl, rfl, rfl, rfl, rfl, rfl⟩
theorem ok82 : TOk Tryz.prog 82 i82 := ⟨Tryz.underlying82, Tryz.t82, _, by kernel_rfl, rfl, rfl, rfl, rfl, rfl, rfl⟩
theorem ok83 : TOk Tryz.prog 83 i83 := ⟨Tryz.underlying83, Tryz.t83, _, by kernel_rfl, rfl, rfl, rfl, rfl, rfl, rfl⟩
theorem ok84 : TOk Tryz.prog 84 i84 := ⟨Tryz.underlying84, Tryz.t84, _, by kernel_rfl, rfl, rfl, rfl, rfl, rfl, rfl⟩
theorem ok85 : TOk Tryz.prog 85 i85 := ⟨Tryz.underlying85, Tryz.t85, _, by kernel_rfl, rfl, rfl, rfl, rfl, rfl, rfl⟩
theorem ok87 : TOk Tryz.prog 87 i87 := ⟨⟨_, [(0, 1), (1, 1), (2, 1), (3, 18), (21, 18), (39, 3)], Tryz.underlying87, rfl, by kernel_rfl⟩, Tryz.t87, _, by kernel_rfl, rfl, rfl, rfl, rfl, rfl, rfl⟩
theorem ok88 : TOk Tryz.prog 88 i88 := ⟨Tryz.underlying88, Tryz.t88, _, by kernel_rfl, rfl, rfl, rfl, rfl, rfl, rfl⟩
theorem ok90 : TOk Tryz.prog 90 i90 := ⟨⟨_, [(0, 1), (1, 1), (2, 1), (3, 1)], Tryz.underlying90, rfl, by kernel_rfl⟩, Tryz.t90, _, by kernel_rfl, rfl, rfl, rfl, rfl, rfl, rfl⟩
theorem ok96 : TOk Tryz.prog 96 i96 := ⟨Tryz.underlying96, Tryz.t96, _, by kernel_rfl, rfl, rfl, rfl, rfl, rfl, rfl⟩
theorem ok98 : TOk Tryz.prog 98 i98 := ⟨⟨_, [(0, 1)], Tryz.underlying98, rfl, by kernel_rfl⟩, Tryz.t98, _, by kernel_rfl, rfl, rfl, rfl, rfl, rfl, rfl⟩
theorem ok100 : TOk Tryz.prog 100 i100 := ⟨⟨_, [(0, 1), (1, 1), (2, 1), (3, 1), (4, 1)], Tryz.underlying100, rfl, by kernel_rfl⟩, Tryz.t100, _, by kernel_rfl, rfl, rfl, rfl, rfl, rfl, rfl⟩
theorem ok107 : TOk Tryz.prog 107 i107 := ⟨Tryz.underlying107, Tryz.t107, _, by kernel_rfl, rfl, rfl, rfl, rfl, rfl, rfl⟩
theorem ok115 : TOk Tryz.prog 115 i115 := ⟨⟨_, [(0, 1), (1, 1), (2, 1)], Tryz.underlying115, rfl, by kernel_rfl⟩, Tryz.t115, _, by kernel_rfl, rfl, rfl, rfl, rfl, rfl, rfl⟩
theorem ok117 : TOk Tryz.prog 117 i117 := ⟨Tryz.underlying117, Tryz.t117, _, by kernel_rfl, rfl, rfl, rfl, rfl, rfl, rfl⟩
theorem ok119 : TOk Tryz.prog 119 i119 := ⟨⟨_, [(0, 1), (1, 1), (2, 1)], Tryz.underlying119, rfl, by kernel_rfl⟩, Tryz.t119, _, by kernel_rfl, rfl, rfl, rfl, rfl, rfl, rfl⟩
theorem ok136 : TOk Tryz.prog 136 i136 := ⟨Tryz.underlying136, Tryz.t136, _, by kernel_rfl, rfl, rfl, rfl, rfl, rfl, rfl⟩
theorem ok137 : TOk Tryz.prog 137 i137 := ⟨Tryz.underlying137, Tryz.t137, _, by kernel_rfl, rfl, rfl, rfl, rfl, rfl, rfl⟩
theorem ok138 : TOk Tryz.prog 138 i138 := ⟨Tryz.underlying138, Tryz.t138, _, by kernel_rfl, rfl, rfl, rfl, rfl, rfl, rfl⟩
theorem ok139 : TOk Tryz.prog 139 i139 := ⟨Tryz.underlying139, Tryz.t139, _, by kernel_rfl, rfl, rfl, rfl, rfl, rfl, rfl⟩
theorem ok141 : TOk Tryz.prog 141 i141 := ⟨⟨_, [(0, 1), (1, 1), (2, 16), (18, 16), (34, 3)], Tryz.underlying141, rfl, by kernel_rfl⟩, Tryz.t141, _, by kernel_rfl, rfl, rfl, rfl, rfl, rfl, rfl⟩
theorem ok142 : TOk Tryz.prog 142 i142 := ⟨Tryz.underlying142, Tryz.t142, _, by kernel_rfl, rfl, rfl, rfl, rfl, rfl, rfl⟩
theorem ok145 : TOk Tryz.prog 145 i145 := ⟨⟨_, [(0, 1), (1, 1), (2, 1), (3, 3)], Tryz.underlying145, rfl, by kernel_rfl⟩, Tryz.t145, _, by kernel_rfl, rfl, rfl, rfl, rfl, rfl, rfl⟩
theorem ok154 : TOk Tryz.prog 154 i154 := ⟨Tryz.underlying154, Tryz.t154, _, by kernel_rfl, rfl, rfl, rfl, rfl, rfl, rfl⟩
theorem ok169 : TOk Tryz.prog 169 i169 := ⟨Tryz.underlying169, Tryz.t169, _, by kernel_rfl, rfl, rfl, rfl, rfl, rfl, rfl⟩
theorem ok171 : TOk Tryz.prog 171 i171 := ⟨⟨_, [(0, 1), (1, 1)], Tryz.underlying171, rfl, by kernel_rfl⟩, Tryz.t171, _, by kernel_rfl, rfl, rfl, rfl, rfl, rfl, rfl⟩
theorem ok178 : TOk Tryz.prog 178 i178 := ⟨Tryz.underlying178, Tryz.t178, _, by kernel_rfl, rfl, rfl, rfl, rfl, rfl, rfl⟩
theorem ok183 : TOk Tryz.prog 183 i183 := ⟨Tryz.underlying183, Tryz.t183, _, by kernel_rfl, rfl, rfl, rfl, rfl, rfl, rfl⟩
theorem ok190 : TOk Tryz.prog 190 i190 := ⟨⟨_, [(0, 2), (2, 1)], Tryz.underlying190, rfl, by kernel_rfl⟩, Tryz.t190, _, by kernel_rfl, rfl, rfl, rfl, rfl, rfl, rfl⟩
theorem ok213 : TOk Tryz.prog 213 i213 := ⟨Tryz.underlying213, Tryz.t213, _, by kernel_rfl, rfl, rfl, rfl, rfl, rfl, rfl⟩
theorem ok218 : TOk Tryz.prog 218 i218 := ⟨⟨_, [(0, 1), (1, 1)], Tryz.underlying218, rfl, by kernel_rfl⟩, Tryz.t218, _, by kernel_rfl, rfl, rfl, rfl, rfl, rfl, rfl⟩
theorem ok224 : TOk Tryz.prog 224 i224 := ⟨⟨_, [(0, 1), (1, 1)], Tryz.underlying224, rfl, by kernel_rfl⟩, Tryz.t224, _, by kernel_rfl, rfl, rfl, rfl, rfl, rfl, rfl⟩
theorem ok227 : TOk Tryz.prog 227 i227 := ⟨Tryz.underlying227, Tryz.t227, _, by kernel_rfl, rfl, rfl, rfl, rfl, rfl, rfl⟩
theorem ok231 : TOk Tryz.prog 231 i231 := ⟨Tryz.underlying231, Tryz.t231, _, by kernel_rfl, rfl, rfl, rfl, rfl, rfl, rfl⟩
theorem ok240 : TOk Tryz.prog 240 i240 := ⟨Tryz.underlying240, Tryz.t240, _, by kernel_rfl, rfl, rfl, rfl, rfl, rfl, rfl⟩
theorem ok245 : TOk Tryz.prog 245 i245 := ⟨Tryz.underlying245, Tryz.t245, _, by kernel_rfl, rfl, rfl, rfl, rfl, rfl, rfl⟩
theorem ok247 : TOk Tryz.prog 247 i247 := ⟨Tryz.underlying247, Tryz.t247, _, by kernel_rfl, rfl, rfl, rfl, rfl, rfl, rfl⟩
theorem ok272 : TOk Tryz.prog 272 i272 := ⟨Tryz.underlying272, Tryz.t272, _, by kernel_rfl, rfl, rfl, rfl, rfl, rfl, rfl⟩
theorem ok275 : TOk Tryz.prog 275 i275 := ⟨⟨_, [(0, 1), (1, 1)], Tryz.underlying275, rfl, by kernel_rfl⟩, Tryz.t275, _, by kernel_rfl, rfl, rfl, rfl, rfl, rfl, rfl⟩
theorem ok276 : TOk Tryz.prog 276 i276 := ⟨Tryz.underlying276, Tryz.t276, _, by kernel_rfl, rfl, rfl, rfl, rfl, rfl, rfl⟩
theorem ok283 : TOk Tryz.prog 283 i283 := ⟨Tryz.underlying283, Tryz.t283, _, by kernel_rfl, rfl, rfl, rfl, rfl, rfl, rfl⟩
theorem ok284 : TOk Tryz.prog 284 i284 := ⟨Tryz.underlying284, Tryz.t284, _, by kernel_rfl, rfl, rfl, rfl, rfl, rfl, rfl⟩
theorem ok294 : TOk Tryz.prog 294 i294 := ⟨Tryz.underlying294, Tryz.t294, _, by kernel_rfl, rfl, rfl, rfl, rfl, rfl, rfl⟩
theorem ok299 : TOk Tryz.prog 299 i299 := ⟨Tryz.underlying299, Tryz.t299, _, by kernel_rfl, rfl, rfl, rfl, rfl, rfl, rfl⟩
theorem ok306 : TOk Tryz.prog 306 i306 := ⟨Tryz.underlying306, Tryz.t306, _, by kernel_rfl, rfl, rfl, rfl, rfl, rfl, rfl⟩
theorem ok313 : TOk Tryz.prog 313 i313 := ⟨Tryz.underlying313, Tryz.t313, _, by kernel_rfl, rfl, rfl, rfl, rfl, rfl, rfl⟩
theorem ok320 : TOk Tryz.prog 320 i320 := ⟨Tryz.underlying320, Tryz.t320, _, by kernel_rfl, rfl, rfl, rfl, rfl, rfl, rfl⟩
theorem ok323 : TOk Tryz.prog 323 i323 := ⟨⟨_, [(0, 4), (4, 1), (5, 1), (6, 1), (7, 1), (8, 1), (9, 1), (10, 1)], Tryz.underlying323, rfl, by kernel_rfl⟩, Tryz.t323, _, by kernel_rfl, rfl, rfl, rfl, rfl, rfl, rfl⟩
theorem ok333 : TOk Tryz.prog 333 i333 := ⟨Tryz.underlying333, Tryz.t333, _, by kernel_rfl, rfl, rfl, rfl, rfl, rfl, rfl⟩
theorem ok335 : TOk Tryz.prog 335 i335 := ⟨⟨_, [(0, 1), (1, 1), (2, 1)], Tryz.underlying335, rfl, by kernel_rfl⟩, Tryz.t335, _, by kernel_rfl, rfl, rfl, rfl, rfl, rfl, rfl⟩
theorem ok340 : TOk Tryz.prog 340 i340 := ⟨⟨_, [(0, 1), (1, 1), (2, 1), (3, 1)], Tryz.underlying340, rfl, by kernel_rfl⟩, Tryz.t340, _, by kernel_rfl, rfl, rfl, rfl, rfl, rfl, rfl⟩
theorem ok371 : TOk Tryz.prog 371 i371 := ⟨Tryz.underlying371, Tryz.t371, _, by kernel_rfl, rfl, rfl, rfl, rfl, rfl, rfl⟩
theorem ok381 : TOk Tryz.prog 381 i381 := ⟨Tryz.underlying381, Tryz.t381, _, by kernel_rfl, rfl, rfl, rfl, rfl, rfl, rfl⟩
theorem ok382 : TOk Tryz.prog 382 i382 := ⟨Tryz.underlying382, Tryz.t382, _, by kernel_rfl, rfl, rfl, rfl, rfl, rfl, rfl⟩
theorem ok385 : TOk Tryz.prog 385 i385 := ⟨Tryz.underlying385, Tryz.t385, _, by kernel_rfl, rfl, rfl, rfl, rfl, rfl, rfl⟩
theorem ok391 : TOk Tryz.prog 391 i391 := ⟨Tryz.underlying391, Tryz.t391, _, by kernel_rfl, rfl, rfl, rfl, rfl, rfl, rfl⟩
theorem ok413 : TOk Tryz.prog 413 i413 := ⟨Tryz.underlying413, Tryz.t413, _, by kernel_rfl, rfl, rfl, rfl, rfl, rfl, rfl⟩
theorem ok414 : TOk Tryz.prog 414 i414 := ⟨Tryz.underlying414, Tryz.t414, _, by kernel_rfl, rfl, rfl, rfl, rfl, rfl, rfl⟩
theorem ok417 : TOk Tryz.prog 417 i417 := ⟨⟨_, [(0, 1), (1, 1), (2, 1)], Tryz.underlying417, rfl, by kernel_rfl⟩, Tryz.t417, _, by kernel_rfl, rfl, rfl, rfl, rfl, rfl, rfl⟩
theorem ok423 : TOk Tryz.prog 423 i423 := ⟨Tryz.underlying423, Tryz.t423, _, by kernel_rfl, rfl, rfl, rfl, rfl, rfl, rfl⟩
theorem ok430 : TOk Tryz.prog 430 i430 := ⟨Tryz.underlying430, Tryz.t430, _, by kernel_rfl, rfl, rfl, rfl, rfl, rfl, rfl⟩
theorem ok441 : TOk Tryz.prog 441 i441 := ⟨⟨_, [(0, 1), (1, 1), (2, 1)], Tryz.underlying441, rfl, by kernel_rfl⟩, Tryz.t441, _, by kernel_rfl, rfl, rfl, rfl, rfl, rfl, rfl⟩
theorem ok461 : TOk Tryz.prog 461 i461 := ⟨Tryz.underlying461, Tryz.t461, _, by kernel_rfl, rfl, rfl, rfl, rfl, rfl, rfl⟩
theorem ok465 : TOk Tryz.prog 465 i465 := ⟨Tryz.underlying465, Tryz.t465, _, by kernel_rfl, rfl, rfl, rfl, rfl, rfl, rfl⟩
theorem ok467 : TOk Tryz.prog 467 i467 := ⟨⟨_, [(0, 1)], Tryz.underlying467, rfl, by kernel_rfl⟩, Tryz.t467, _, by kernel_rfl, rfl, rfl, rfl, rfl, rfl, rfl⟩
theorem ok474 : TOk Tryz.prog 474 i474 := ⟨Tryz.underlying474, Tryz.t474, _, by kernel_rfl, rfl, rfl, rfl, rfl, rfl, rfl⟩
theorem ok475 : TOk Tryz.prog 475 i475 := ⟨Tryz.underlying475, Tryz.t475, _, by kernel_rfl, rfl, rfl, rfl, rfl, rfl, rfl⟩
theorem tt_ok : TTOk Tryz.prog tt := fun _ _ h => T.all_get (p := fun t i => TOk Tryz.prog t i) (f := id) (t := tt) ⟨trivial, ⟨trivial, ⟨ok3, ⟨trivial, ⟨trivial, ⟨trivial, ⟨ok63, trivial, trivial⟩, trivial⟩, ⟨ok47, ⟨trivial, trivial, ⟨trivial, ⟨ok335, trivial, trivial⟩, trivial⟩⟩, trivial⟩⟩, ⟨ok23, ⟨trivial, ⟨ok71, ⟨trivial, trivial, ⟨ok391, trivial, trivial⟩⟩, trivial⟩, ⟨trivial, ⟨trivial, trivial, ⟨ok423, trivial, trivial⟩⟩, ⟨ok231, trivial, trivial⟩⟩⟩, ⟨trivial, ⟨ok87, trivial, trivial⟩, ⟨ok119, ⟨ok183, trivial, trivial⟩, ⟨ok247, trivial, trivial⟩⟩⟩⟩⟩, ⟨trivial, ⟨trivial, ⟨trivial, ⟨trivial, trivial, ⟨trivial, ⟨ok323, trivial, trivial⟩, trivial⟩⟩, ⟨trivial, trivial, ⟨ok227, trivial, trivial⟩⟩⟩, ⟨ok51, ⟨ok83, ⟨trivial, ⟨ok275, trivial, trivial⟩, trivial⟩, ⟨trivial, trivial, ⟨ok467, trivial, trivial⟩⟩⟩, ⟨ok115, trivial, ⟨trivial, ⟨ok371, trivial, trivial⟩, trivial⟩⟩⟩⟩, ⟨trivial, ⟨trivial, ⟨trivial, ⟨ok139, trivial, trivial⟩, trivial⟩, ⟨ok107, ⟨ok171, ⟨ok299, trivial, trivial⟩, trivial⟩, trivial⟩⟩, ⟨trivial, ⟨trivial, ⟨trivial, ⟨ok283, trivial, trivial⟩, trivial⟩, ⟨trivial, trivial, ⟨ok475, trivial, trivial⟩⟩⟩, trivial⟩⟩⟩⟩, ⟨ok5, ⟨ok9, ⟨trivial, ⟨trivial, ⟨trivial, ⟨trivial, trivial, ⟨ok385, trivial, trivial⟩⟩, trivial⟩, ⟨trivial, ⟨trivial, trivial, ⟨ok417, trivial, trivial⟩⟩, trivial⟩⟩, ⟨ok49, ⟨trivial, ⟨ok145, trivial, trivial⟩, ⟨trivial, trivial, ⟨ok465, trivial, trivial⟩⟩⟩, trivial⟩⟩, ⟨ok25, ⟨trivial, ⟨ok73, ⟨ok137, trivial, trivial⟩, trivial⟩, ⟨trivial, ⟨ok169, trivial, trivial⟩, trivial⟩⟩, ⟨trivial, trivial, ⟨trivial, ⟨trivial, ⟨ok313, trivial, trivial⟩, ⟨ok441, trivial, trivial⟩⟩, trivial⟩⟩⟩⟩, ⟨trivial, ⟨ok21, trivial, ⟨ok53, ⟨ok85, trivial, ⟨ok213, trivial, trivial⟩⟩, ⟨ok117, trivial, ⟨ok245, trivial, trivial⟩⟩⟩⟩, ⟨ok29, ⟨trivial, ⟨ok77, ⟨ok141, trivial, trivial⟩, ⟨trivial, ⟨ok333, trivial, trivial⟩, ⟨ok461, trivial, trivial⟩⟩⟩, trivial⟩, ⟨trivial, ⟨trivial, ⟨trivial, trivial, ⟨ok413, trivial, trivial⟩⟩, trivial⟩, ⟨trivial, trivial, ⟨trivial, ⟨ok381, trivial, trivial⟩, trivial⟩⟩⟩⟩⟩⟩⟩, ⟨ok2, ⟨ok4, ⟨trivial, ⟨trivial, ⟨ok32, ⟨trivial, trivial, ⟨trivial, ⟨ok320, trivial, trivial⟩, trivial⟩⟩, ⟨ok96, trivial, ⟨ok224, trivial, trivial⟩⟩⟩, ⟨trivial, ⟨trivial, ⟨trivial, ⟨ok272, trivial, trivial⟩, trivial⟩, trivial⟩, ⟨trivial, trivial, ⟨ok240, trivial, trivial⟩⟩⟩⟩, ⟨ok24, ⟨ok40, ⟨trivial, ⟨ok136, trivial, trivial⟩, trivial⟩, trivial⟩, ⟨trivial, ⟨ok88, trivial, trivial⟩, trivial⟩⟩⟩, ⟨trivial, ⟨trivial, ⟨trivial, trivial, ⟨ok100, trivial, trivial⟩⟩, ⟨ok52, ⟨ok84, ⟨trivial, ⟨ok276, trivial, trivial⟩, trivial⟩, ⟨trivial, ⟨ok340, trivial, trivial⟩, trivial⟩⟩, trivial⟩⟩, ⟨trivial, ⟨ok44, trivial, trivial⟩, ⟨trivial, ⟨trivial, ⟨trivial, ⟨ok284, trivial, trivial⟩, trivial⟩, trivial⟩, trivial⟩⟩⟩⟩, ⟨trivial, ⟨ok10, ⟨trivial, ⟨trivial, trivial, ⟨ok98, trivial, trivial⟩⟩, ⟨trivial, ⟨ok82, trivial, trivial⟩, ⟨trivial, ⟨ok178, ⟨ok306, trivial, trivial⟩, trivial⟩, trivial⟩⟩⟩, ⟨trivial, ⟨ok42, ⟨trivial, ⟨ok138, trivial, trivial⟩, trivial⟩, trivial⟩, ⟨ok58, ⟨ok90, ⟨ok154, trivial, trivial⟩, ⟨ok218, trivial, ⟨ok474, trivial, trivial⟩⟩⟩, trivial⟩⟩⟩, ⟨trivial, ⟨ok22, ⟨trivial, trivial, ⟨trivial, ⟨trivial, ⟨ok294, trivial, trivial⟩, trivial⟩, trivial⟩⟩, ⟨ok54, trivial, trivial⟩⟩, ⟨trivial, ⟨trivial, ⟨trivial, ⟨ok142, trivial, trivial⟩, trivial⟩, ⟨trivial, ⟨trivial, trivial, ⟨ok430, trivial, trivial⟩⟩, trivial⟩⟩, ⟨trivial, ⟨trivial, ⟨trivial, trivial, ⟨ok414, trivial, trivial⟩⟩, trivial⟩, ⟨trivial, ⟨ok190, trivial, trivial⟩, ⟨trivial, ⟨ok382, trivial, trivial⟩, trivial⟩⟩⟩⟩⟩⟩⟩⟩ h
theorem fn3 : Tryz.prog.funcs[3]? = some Tryz.f3 ∧ (Tryz.f3.name == "runtime.NumGoroutine") = false := ⟨Tryz.func3, by kernel_rfl⟩
theorem fn4 : Tryz.prog.funcs[4]? = some Tryz.f4 ∧ (Tryz.f4.name == "runtime.NumGoroutine") = false := ⟨Tryz.func4, by kernel_rfl⟩
theorem fn5 : Tryz.prog.funcs[5]? = some Tryz.f5 ∧ (Tryz.f5.name == "runtime.NumGoroutine") = false := ⟨Tryz.func5, by kernel_rfl⟩
theorem fn6 : Tryz.prog.funcs[6]? = some Tryz.f6 ∧ (Tryz.f6.name == "runtime.NumGoroutine") = false := ⟨Tryz.func6, by kernel_rfl⟩
theorem fn7 : Tryz.prog.funcs[7]? = some Tryz.f7 ∧ (Tryz.f7.name == "runtime.NumGoroutine") = false := ⟨Tryz.func7, by kernel_rfl⟩
theorem fn8 : Tryz.prog.funcs[8]? = some Tryz.f8 ∧ (Tryz.f8.name == "runtime.NumGoroutine") = false := ⟨Tryz.func8, by kernel_rfl⟩
theorem fn9 : Tryz.prog.funcs[9]? = some Tryz.f9 ∧ (Tryz.f9.name == "runtime.NumGoroutine") = false := ⟨Tryz.func9, by kernel_rfl⟩
theorem fn10 : Tryz.prog.funcs[10]? = some Tryz.f10 ∧ (Tryz.f10.name == "runtime.NumGoroutine") = false := ⟨Tryz.func10, by kernel_rfl⟩
theorem fn11 : Tryz.prog.funcs[11]? = some Tryz.f11 ∧ (Tryz.f11.name == "runtime.NumGoroutine") = false := ⟨Tryz.func11, by kernel_rfl⟩
theorem fn12 : Tryz.prog.funcs[12]? = some Tryz.f12 ∧ (Tryz.f12.name == "runtime.NumGoroutine") = false := ⟨Tryz.func12, by kernel_rfl⟩
theorem fn13 : Tryz.prog.funcs[13]? = some Tryz.f13 ∧ (Tryz.f13.name == "runtime.NumGoroutine") = false := ⟨Tryz.func13, by kernel_rfl⟩
theorem fn14 : Tryz.prog.funcs[14]? = some Tryz.f14 ∧ (Tryz.f14.name == "runtime.NumGoroutine") = false := ⟨Tryz.func14, by kernel_rfl⟩
theorem fn15 : Tryz.prog.funcs[15]? = some Tryz.f15 ∧ (Tryz.f15.name == "runtime.NumGoroutine") = false := ⟨Tryz.func15, by kernel_rfl⟩
theorem fn16 : Tryz.prog.funcs[16]? = some Tryz.f16 ∧ (Tryz.f16.name == "runtime.NumGoroutine") = false := ⟨Tryz.func16, by kernel_rfl⟩
theorem fn17 : Tryz.prog.funcs[17]? = some Tryz.f17 ∧ (Tryz.f17.name == "runtime.NumGoroutine") = false := ⟨Tryz.func17, by kernel_rfl⟩
theorem fn18 : Tryz.prog.funcs[18]? = some Tryz.f18 ∧ (Tryz.f18.name == "runtime.NumGoroutine") = false := ⟨Tryz.func18, by kernel_rfl⟩
theorem fn19 : Tryz.prog.funcs[19]? = some Tryz.f19 ∧ (Tryz.f19.name == "runtime.NumGoroutine") = false := ⟨Tryz.func19, by kernel_rfl⟩
theorem fn20 : Tryz.prog.funcs[20]? = some Tryz.f20 ∧ (Tryz.f20.name == "runtime.NumGoroutine") = false := ⟨Tryz.func20, by kernel_rfl⟩
theorem fn21 : Tryz.prog.funcs[21]? = some Tryz.f21 ∧ (Tryz.f21.name == "runtime.NumGoroutine") = false := ⟨Tryz.func21, by kernel_rfl⟩
theorem fn22 : Tryz.prog.funcs[22]? = some Tryz.f22 ∧ (Tryz.f22.name == "runtime.NumGoroutine") = false := ⟨Tryz.func22, by kernel_rfl⟩
theorem fn23 : Tryz.prog.funcs[23]? = some Tryz.f23 ∧ (Tryz.f23.name == "runtime.NumGoroutine") = false := ⟨Tryz.func23, by kernel_rfl⟩
theorem fn24 : Tryz.prog.funcs[24]? = some Tryz.f24 ∧ (Tryz.f24.name == "runtime.NumGoroutine") = false := ⟨Tryz.func24, by kernel_rfl⟩
theorem fn25 : Tryz.prog.funcs[25]? = some Tryz.f25 ∧ (Tryz.f25.name == "runtime.NumGoroutine") = false := ⟨Tryz.func25, by kernel_rfl⟩
theorem fn26 : Tryz.prog.funcs[26]? = some Tryz.f26 ∧ (Tryz.f26.name == "runtime.NumGoroutine") = false := ⟨Tryz.func26, by kernel_rfl⟩
theorem fn27 : Tryz.prog.funcs[27]? = some Tryz.f27 ∧ (Tryz.f27.name == "runtime.NumGoroutine") = false := ⟨Tryz.func27, by kernel_rfl⟩
theorem fn28 : Tryz.prog.funcs[28]? = some Tryz.f28 ∧ (Tryz.f28.name == "runtime.NumGoroutine") = false := ⟨Tryz.func28, by kernel_rfl⟩
theorem fn29 : Tryz.prog.funcs[29]? = some Tryz.f29 ∧ (Tryz.f29.name == "runtime.NumGoroutine") = false := ⟨Tryz.func29, by kernel_rfl⟩
theorem fn30 : Tryz.prog.funcs[30]? = some Tryz.f30 ∧ (Tryz.f30.name == "runtime.NumGoroutine") = false := ⟨Tryz.func30, by kernel_rfl⟩
theorem fn31 : Tryz.prog.funcs[31]? = some Tryz.f31 ∧ (Tryz.f31.name == "runtime.NumGoroutine") = false := ⟨Tryz.func31, by kernel_rfl⟩
theorem fn32 : Tryz.prog.funcs[32]? = some Tryz.f32 ∧ (Tryz.f32.name == "runtime.NumGoroutine") = false := ⟨Tryz.func32, by kernel_rfl⟩
theorem fn33 : Tryz.prog.funcs[33]? = some Tryz.f33 ∧ (Tryz.f33.name == "runtime.NumGoroutine") = false := ⟨Tryz.func33, by kernel_rfl⟩
theorem fn34 : Tryz.prog.funcs[34]? = some Tryz.f34 ∧ (Tryz.f34.name == "runtime.NumGoroutine") = false := ⟨Tryz.func34, by kernel_rfl⟩
theorem fn35 : Tryz.prog.funcs[35]? = some Tryz.f35 ∧ (Tryz.f35.name == "runtime.NumGoroutine") = false := ⟨Tryz.func35, by kernel_rfl⟩
theorem fn36 : Tryz.prog.funcs[36]? = some Tryz.f36 ∧ (Tryz.f36.name == "runtime.NumGoroutine") = false := ⟨Tryz.func36, by kernel_rfl⟩
theorem fn37 : Tryz.prog.funcs[37]? = some Tryz.f37 ∧ (Tryz.f37.name == "runtime.NumGoroutine") = false := ⟨Tryz.func37, by kernel_rfl⟩
theorem fn38 : Tryz.prog.funcs[38]? = some Tryz.f38 ∧ (Tryz.f38.name == "runtime.NumGoroutine") = false := ⟨Tryz.func38, by kernel_rfl⟩
theorem fn39 : Tryz.prog.funcs[39]? = some Tryz.f39 ∧ (Tryz.f39.name == "runtime.NumGoroutine") = false := ⟨Tryz.func39, by kernel_rfl⟩
theorem fn40 : Tryz.prog.funcs[40]? = some Tryz.f40 ∧ (Tryz.f40.name == "runtime.NumGoroutine") = false := ⟨Tryz.func40, by kernel_rfl⟩
theorem fn41 : Tryz.prog.funcs[41]? = some Tryz.f41 ∧ (Tryz.f41.name == "runtime.NumGoroutine") = false := ⟨Tryz.func41, by kernel_rfl⟩
theorem fn42 : Tryz.prog.funcs[42]? = some Tryz.f42 ∧ (Tryz.f42.name == "runtime.NumGoroutine") = false := ⟨Tryz.func42, by kernel_rfl⟩
theorem fn43 : Tryz.prog.funcs[43]? = some Tryz.f43 ∧ (Tryz.f43.name == "runtime.NumGoroutine") = false := ⟨Tryz.func43, by kernel_rfl⟩
theorem fn44 : Tryz.prog.funcs[44]? = some Tryz.f44 ∧ (Tryz.f44.name == "runtime.NumGoroutine") = false := ⟨Tryz.func44, by kernel_rfl⟩
theorem fn45 : Tryz.prog.funcs[45]? = some Tryz.f45 ∧ (Tryz.f45.name == "runtime.NumGoroutine") = false := ⟨Tryz.func45, by kernel_rfl⟩
theorem fn46 : Tryz.prog.funcs[46]? = some Tryz.f46 ∧ (Tryz.f46.name == "runtime.NumGoroutine") = false := ⟨Tryz.func46, by kernel_rfl⟩
theorem fn47 : Tryz.prog.funcs[47]? = some Tryz.f47 ∧ (Tryz.f47.name == "runtime.NumGoroutine") = false := ⟨Tryz.func47, by kernel_rfl⟩
theorem fn48 : Tryz.prog.funcs[48]? = some Tryz.f48 ∧ (Tryz.f48.name == "runtime.NumGoroutine") = false := ⟨Tryz.func48, by kernel_rfl⟩
theorem fn49 : Tryz.prog.funcs[49]? = some Tryz.f49 ∧ (Tryz.f49.name == "runtime.NumGoroutine") = false := ⟨Tryz.func49, by kernel_rfl⟩
theorem fn50 : Tryz.prog.funcs[50]? = some Tryz.f50 ∧ (Tryz.f50.name == "runtime.NumGoroutine") = false := ⟨Tryz.func50, by kernel_rfl⟩
theorem fn51 : Tryz.prog.funcs[51]? = some Tryz.f51 ∧ (Tryz.f51.name == "runtime.NumGoroutine") = false := ⟨Tryz.func51, by kernel_rfl⟩
theorem fn52 : Tryz.prog.funcs[52]? = some Tryz.f52 ∧ (Tryz.f52.name == "runtime.NumGoroutine") = false := ⟨Tryz.func52, by kernel_rfl⟩
theorem fn53 : Tryz.prog.funcs[53]? = some Tryz.f53 ∧ (Tryz.f53.name == "runtime.NumGoroutine") = false := ⟨Tryz.func53, by kernel_rfl⟩
theorem fn54 : Tryz.prog.funcs[54]? = some Tryz.f54 ∧ (Tryz.f54.name == "runtime.NumGoroutine") = false := ⟨Tryz.func54, by kernel_rfl⟩
theorem fn55 : Tryz.prog.funcs[55]? = some Tryz.f55 ∧ (Tryz.f55.name == "runtime.NumGoroutine") = false := ⟨Tryz.func55, by kernel_rfl⟩
theorem fn56 : Tryz.prog.funcs[56]? = some Tryz.f56 ∧ (Tryz.f56.name == "runtime.NumGoroutine") = false := ⟨Tryz.func56, by kernel_rfl⟩
theorem fn57 : Tryz.prog.funcs[57]? = some Tryz.f57 ∧ (Tryz.f57.name == "runtime.NumGoroutine") = false := ⟨Tryz.func57, by kernel_rfl⟩
theorem fn58 : Tryz.prog.funcs[58]? = some Tryz.f58 ∧ (Tryz.f58.name == "runtime.NumGoroutine") = false := ⟨Tryz.func58, by kernel_rfl⟩
theorem fn59 : Tryz.prog.funcs[59]? = some Tryz.f59 ∧ (Tryz.f59.name == "runtime.NumGoroutine") = false := ⟨Tryz.func59, by kernel_rfl⟩
theorem fn60 : Tryz.prog.funcs[60]? = some Tryz.f60 ∧ (Tryz.f60.name == "runtime.NumGoroutine") = false := ⟨Tryz.func60, by kernel_rfl⟩
theorem fn61 : Tryz.prog.funcs[61]? = some Tryz.f61 ∧ (Tryz.f61.name == "runtime.NumGoroutine") = false := ⟨Tryz.func61, by kernel_rfl⟩
theorem fn62 : Tryz.prog.funcs[62]? = some Tryz.f62 ∧ (Tryz.f62.name == "runtime.NumGoroutine") = false := ⟨Tryz.func62, by kernel_rfl⟩
theorem fn63 : Tryz.prog.funcs[63]? = some Tryz.f63 ∧ (Tryz.f63.name == "runtime.NumGoroutine") = false := ⟨Tryz.func63, by kernel_rfl⟩
theorem fn64 : Tryz.prog.funcs[64]? = some Tryz.f64 ∧ (Tryz.f64.name == "runtime.NumGoroutine") = false := ⟨Tryz.func64, by kernel_rfl⟩
theorem fn65 : Tryz.prog.funcs[65]? = some Tryz.f65 ∧ (Tryz.f65.name == "runtime.NumGoroutine") = false := ⟨Tryz.func65, by kernel_rfl⟩
theorem fn66 : Tryz.prog.funcs[66]? = some Tryz.f66 ∧ (Tryz.f66.name == "runtime.NumGoroutine") = false := ⟨Tryz.func66, by kernel_rfl⟩
theorem fn67 : Tryz.prog.funcs[67]? = some Tryz.f67 ∧ (Tryz.f67.name == "runtime.NumGoroutine") = false := ⟨Tryz.func67, by kernel_rfl⟩
theorem fn68 : Tryz.prog.funcs[68]? = some Tryz.f68 ∧ (Tryz.f68.name == "runtime.NumGoroutine") = false := ⟨Tryz.func68, by kernel_rfl⟩
theorem fn69 : Tryz.prog.funcs[69]? = some Tryz.f69 ∧ (Tryz.f69.name == "runtime.NumGoroutine") = false := ⟨Tryz.func69, by kernel_rfl⟩
theorem fn70 : Tryz.prog.funcs[70]? = some Tryz.f70 ∧ (Tryz.f70.name == "runtime.NumGoroutine") = false := ⟨Tryz.func70, by kernel_rfl⟩
theorem fn71 : Tryz.prog.funcs[71]? = some Tryz.f71 ∧ (Tryz.f71.name == "runtime.NumGoroutine") = false := ⟨Tryz.func71, by kernel_rfl⟩
theorem fn72 : Tryz.prog.funcs[72]? = some Tryz.f72 ∧ (Tryz.f72.name == "runtime.NumGoroutine") = false := ⟨Tryz.func72, by kernel_rfl⟩
theorem fn73 : Tryz.prog.funcs[73]? = some Tryz.f73 ∧ (Tryz.f73.name == "runtime.NumGoroutine") = false := ⟨Tryz.func73, by kernel_rfl⟩
theorem fn74 : Tryz.prog.funcs[74]? = some Tryz.f74 ∧ (Tryz.f74.name == "runtime.NumGoroutine") = false := ⟨Tryz.func74, by kernel_rfl⟩
theorem fn75 : Tryz.prog.funcs[75]? = some Tryz.f75 ∧ (Tryz.f75.name == "runtime.NumGoroutine") = false := ⟨Tryz.func75, by kernel_rfl⟩
theorem fn76 : Tryz.prog.funcs[76]? = some Tryz.f76 ∧ (Tryz.f76.name == "runtime.NumGoroutine") = false := ⟨Tryz.func76, by kernel_rfl⟩
theorem fn77 : Tryz.prog.funcs[77]? = some Tryz.f77 ∧ (Tryz.f77.name == "runtime.NumGoroutine") = false := ⟨Tryz.func77, by kernel_rfl⟩
theorem fn78 : Tryz.prog.funcs[78]? = some Tryz.f78 ∧ (Tryz.f78.name == "runtime.NumGoroutine") = false := ⟨Tryz.func78, by kernel_rfl⟩
theorem fn79 : Tryz.prog.funcs[79]? = some Tryz.f79 ∧ (Tryz.f79.name == "runtime.NumGoroutine") = false := ⟨Tryz.func79, by kernel_rfl⟩
theorem fn80 : Tryz.prog.funcs[80]? = some Tryz.f80 ∧ (Tryz.f80.name == "runtime.NumGoroutine") = false := ⟨Tryz.func80, by kernel_rfl⟩
theorem fn81 : Tryz.prog.funcs[81]? = some Tryz.f81 ∧ (Tryz.f81.name == "runtime.NumGoroutine") = false := ⟨Tryz.func81, by kernel_rfl⟩
theorem fn82 : Tryz.prog.funcs[82]? = some Tryz.f82 ∧ (Tryz.f82.name == "runtime.NumGoroutine") = false := ⟨Tryz.func82, by kernel_rfl⟩
theorem fn83 : Tryz.prog.funcs[83]? = some Tryz.f83 ∧ (Tryz.f83.name == "runtime.NumGoroutine") = false := ⟨Tryz.func83, by kernel_rfl⟩
theorem fn84 : Tryz.prog.funcs[84]? = some Tryz.f84 ∧ (Tryz.f84.name == "runtime.NumGoroutine") = false := ⟨Tryz.func84, by kernel_rfl⟩
theorem fn85 : Tryz.prog.funcs[85]? = some Tryz.f85 ∧ (Tryz.f85.name == "runtime.NumGoroutine") = false := ⟨Tryz.func85, by kernel_rfl⟩
theorem fn86 : Tryz.prog.funcs[86]? = some Tryz.f86 ∧ (Tryz.f86.name == "runtime.NumGoroutine") = false := ⟨Tryz.func86, by kernel_rfl⟩
theorem fn87 : Tryz.prog.funcs[87]? = some Tryz.f87 ∧ (Tryz.f87.name == "runtime.NumGoroutine") = false := ⟨Tryz.func87, by kernel_rfl⟩
theorem fn88 : Tryz.prog.funcs[88]? = some Tryz.f88 ∧ (Tryz.f88.name == "runtime.NumGoroutine") = false := ⟨Tryz.func88, by kernel_rfl⟩
theorem fn89 : Tryz.prog.funcs[89]? = some Tryz.f89 ∧ (Tryz.f89.name == "runtime.NumGoroutine") = false := ⟨Tryz.func89, by kernel_rfl⟩
theorem fn90 : Tryz.prog.funcs[90]? = some Tryz.f90 ∧ (Tryz.f90.name == "runtime.NumGoroutine") = false := ⟨Tryz.func90, by kernel_rfl⟩
theorem fn91 : Tryz.prog.funcs[91]? = some Tryz.f91 ∧ (Tryz.f91.name == "runtime.NumGoroutine") = false := ⟨Tryz.func91, by kernel_rfl⟩
theorem fn92 : Tryz.prog.funcs[92]? = some Tryz.f92 ∧ (Tryz.f92.name == "runtime.NumGoroutine") = false := ⟨Tryz.func92, by kernel_rfl⟩
theorem fn93 : Tryz.prog.funcs[93]? = some Tryz.f93 ∧ (Tryz.f93.name == "runtime.NumGoroutine") = false := ⟨Tryz.func93, by kernel_rfl⟩
theorem fn94 : Tryz.prog.funcs[94]? = some Tryz.f94 ∧ (Tryz.f94.name == "runtime.NumGoroutine") = false := ⟨Tryz.func94, by kernel_rfl⟩
theorem fn95 : Tryz.prog.funcs[95]? = some Tryz.f95 ∧ (Tryz.f95.name == "runtime.NumGoroutine") = false := ⟨Tryz.func95, by kernel_rfl⟩
theorem fn96 : Tryz.prog.funcs[96]? = some Tryz.f96 ∧ (Tryz.f96.name == "runtime.NumGoroutine") = false := ⟨Tryz.func96, by kernel_rfl⟩
theorem fn97 : Tryz.prog.funcs[97]? = some Tryz.f97 ∧ (Tryz.f97.name == "runtime.NumGoroutine") = false := ⟨Tryz.func97, by kernel_rfl⟩
theorem fn98 : Tryz.prog.funcs[98]? = some Tryz.f98 ∧ (Tryz.f98.name == "runtime.NumGoroutine") = false := ⟨Tryz.func98, by kernel_rfl⟩
theorem fn99 : Tryz.prog.funcs[99]? = some Tryz.f99 ∧ (Tryz.f99.name == "runtime.NumGoroutine") = false := ⟨Tryz.func99, by kernel_rfl⟩
theorem fn100 : Tryz.prog.funcs[100]? = some Tryz.f100 ∧ (Tryz.f100.name == "runtime.NumGoroutine") = false := ⟨Tryz.func100, by kernel_rfl⟩
theorem fn101 : Tryz.prog.funcs[101]? = some Tryz.f101 ∧ (Tryz.f101.name == "runtime.NumGoroutine") = false := ⟨Tryz.func101, by kernel_rfl⟩
theorem fn102 : Tryz.prog.funcs[102]? = some Tryz.f102 ∧ (Tryz.f102.name == "runtime.NumGoroutine") = false := ⟨Tryz.func102, by kernel_rfl⟩
theorem fn103 : Tryz.prog.funcs[103]? = some Tryz.f103 ∧ (Tryz.f103.name == "runtime.NumGoroutine") = false := ⟨Tryz.func103, by kernel_rfl⟩
theorem fn104 : Tryz.prog.funcs[104]? = some Tryz.f104 ∧ (Tryz.f104.name == "runtime.NumGoroutine") = false := ⟨Tryz.func104, by kernel_rfl⟩
theorem fn105 : Tryz.prog.funcs[105]? = some Tryz.f105 ∧ (Tryz.f105.name == "runtime.NumGoroutine") = false := ⟨Tryz.func105, by kernel_rfl⟩
theorem fn106 : Tryz.prog.funcs[106]? = some Tryz.f106 ∧ (Tryz.f106.name == "runtime.NumGoroutine") = false := ⟨Tryz.func106, by kernel_rfl⟩
theorem fn107 : Tryz.prog.funcs[107]? = some Tryz.f107 ∧ (Tryz.f107.name == "runtime.NumGoroutine") = false := ⟨Tryz.func107, by kernel_rfl⟩
theorem fn108 : Tryz.prog.funcs[108]? = some Tryz.f108 ∧ (Tryz.f108.name == "runtime.NumGoroutine") = false := ⟨Tryz.func108, by kernel_rfl⟩
theorem fn109 : Tryz.prog.funcs[109]? = some Tryz.f109 ∧ (Tryz.f109.name == "runtime.NumGoroutine") = false := ⟨Tryz.func109, by kernel_rfl⟩
theorem fn110 : Tryz.prog.funcs[110]? = some Tryz.f110 ∧ (Tryz.f110.name == "runtime.NumGoroutine") = false := ⟨Tryz.func110, by kernel_rfl⟩
theorem fn111 : Tryz.prog.funcs[111]? = some Tryz.f111 ∧ (Tryz.f111.name == "runtime.NumGoroutine") = false := ⟨Tryz.func111, by kernel_rfl⟩
theorem fn112 : Tryz.prog.funcs[112]? = some Tryz.f112 ∧ (Tryz.f112.name == "runtime.NumGoroutine") = false := ⟨Tryz.func112, by kernel_rfl⟩
theorem fn113 : Tryz.prog.funcs[113]? = some Tryz.f113 ∧ (Tryz.f113.name == "runtime.NumGoroutine") = false := ⟨Tryz.func113, by kernel_rfl⟩
theorem fn114 : Tryz.prog.funcs[114]? = some Tryz.f114 ∧ (Tryz.f114.name == "runtime.NumGoroutine") = false := ⟨Tryz.func114, by kernel_rfl⟩
theorem fn115 : Tryz.prog.funcs[115]? = some Tryz.f115 ∧ (Tryz.f115.name == "runtime.NumGoroutine") = false := ⟨Tryz.func115, by kernel_rfl⟩
theorem fn116 : Tryz.prog.funcs[116]? = some Tryz.f116 ∧ (Tryz.f116.name == "runtime.NumGoroutine") = false := ⟨Tryz.func116, by kernel_rfl⟩
theorem fn117 : Tryz.prog.funcs[117]? = some Tryz.f117 ∧ (Tryz.f117.name == "runtime.NumGoroutine") = false := ⟨Tryz.func117, by kernel_rfl⟩
theorem fn118 : Tryz.prog.funcs[118]? = some Tryz.f118 ∧ (Tryz.f118.name == "runtime.NumGoroutine") = false := ⟨Tryz.func118, by kernel_rfl⟩
theorem fn119 : Tryz.prog.funcs[119]? = some Tryz.f119 ∧ (Tryz.f119.name == "runtime.NumGoroutine") = false := ⟨Tryz.func119, by kernel_rfl⟩
theorem fn120 : Tryz.prog.funcs[120]? = some Tryz.f120 ∧ (Tryz.f120.name == "runtime.NumGoroutine") = false := ⟨Tryz.func120, by kernel_rfl⟩
theorem fn121 : Tryz.prog.funcs[121]? = some Tryz.f121 ∧ (Tryz.f121.name == "runtime.NumGoroutine") = false := ⟨Tryz.func121, by kernel_rfl⟩
theorem fn122 : Tryz.prog.funcs[122]? = some Tryz.f122 ∧ (Tryz.f122.name == "runtime.NumGoroutine") = false := ⟨Tryz.func122, by kernel_rfl⟩
theorem fn123 : Tryz.prog.funcs[123]? = some Tryz.f123 ∧ (Tryz.f123.name == "runtime.NumGoroutine") = false := ⟨Tryz.func123, by kernel_rfl⟩
theorem fn124 : Tryz.prog.funcs[124]? = some Tryz.f124 ∧ (Tryz.f124.name == "runtime.NumGoroutine") = false := ⟨Tryz.func124, by kernel_rfl⟩
theorem fn125 : Tryz.prog.funcs[125]? = some Tryz.f125 ∧ (Tryz.f125.name == "runtime.NumGoroutine") = false := ⟨Tryz.func125, by kernel_rfl⟩
theorem fn126 : Tryz.prog.funcs[126]? = some Tryz.f126 ∧ (Tryz.f126.name == "runtime.NumGoroutine") = false := ⟨Tryz.func126, by kernel_rfl⟩
theorem fn127 : Tryz.prog.funcs[127]? = some Tryz.f127 ∧ (Tryz.f127.name == "runtime.NumGoroutine") = false := ⟨Tryz.func127, by kernel_rfl⟩
theorem fn128 : Tryz.prog.funcs[128]? = some Tryz.f128 ∧ (Tryz.f128.name == "runtime.NumGoroutine") = false := ⟨Tryz.func128, by kernel_rfl⟩
theorem fn129 : Tryz.prog.funcs[129]? = some Tryz.f129 ∧ (Tryz.f129.name == "runtime.NumGoroutine") = false := ⟨Tryz.func129, by kernel_rfl⟩
theorem fn130 : Tryz.prog.funcs[130]? = some Tryz.f130 ∧ (Tryz.f130.name == "runtime.NumGoroutine") = false := ⟨Tryz.func130, by kernel_rfl⟩
theorem fn131 : Tryz.prog.funcs[131]? = some Tryz.f131 ∧ (Tryz.f131.name == "runtime.NumGoroutine") = false := ⟨Tryz.func131, by kernel_rfl⟩
theorem fn134 : Tryz.prog.funcs[134]? = some Tryz.f134 ∧ (Tryz.f134.name == "runtime.NumGoroutine") = false := ⟨Tryz.func134, by kernel_rfl⟩
theorem fn136 : Tryz.prog.funcs[136]? = some Tryz.f136 ∧ (Tryz.f136.name == "runtime.NumGoroutine") = false := ⟨Tryz.func136, by kernel_rfl⟩
theorem fn137 : Tryz.prog.funcs[137]? = some Tryz.f137 ∧ (Tryz.f137.name == "runtime.NumGoroutine") = false := ⟨Tryz.func137, by kernel_rfl⟩
theorem fn138 : Tryz.prog.funcs[138]? = some Tryz.f138 ∧ (Tryz.f138.name == "runtime.NumGoroutine") = false := ⟨Tryz.func138, by kernel_rfl⟩
theorem fn139 : Tryz.prog.funcs[139]? = some Tryz.f139 ∧ (Tryz.f139.name == "runtime.NumGoroutine") = false := ⟨Tryz.func139, by kernel_rfl⟩
theorem fn140 : Tryz.prog.funcs[140]? = some Tryz.f140 ∧ (Tryz.f140.name == "runtime.NumGoroutine") = false := ⟨Tryz.func140, by kernel_rfl⟩
theorem fn141 : Tryz.prog.funcs[141]? = some Tryz.f141 ∧ (Tryz.f141.name == "runtime.NumGoroutine") = false := ⟨Tryz.func141, by kernel_rfl⟩
theorem fn142 : Tryz.prog.funcs[142]? = some Tryz.f142 ∧ (Tryz.f142.name == "runtime.NumGoroutine") = false := ⟨Tryz.func142, by kernel_rfl⟩
theorem fn143 : Tryz.prog.funcs[143]? = some Tryz.f143 ∧ (Tryz.f143.name == "runtime.NumGoroutine") = false := ⟨Tryz.func143, by kernel_rfl⟩
theorem fn144 : Tryz.prog.funcs[144]? = some Tryz.f144 ∧ (Tryz.f144.name == "runtime.NumGoroutine") = false := ⟨Tryz.func144, by kernel_rfl⟩
theorem fn145 : Tryz.prog.funcs[145]? = some Tryz.f145 ∧ (Tryz.f145.name == "runtime.NumGoroutine") = false := ⟨Tryz.func145, by kernel_rfl⟩
theorem fn146 : Tryz.prog.funcs[146]? = some Tryz.f146 ∧ (Tryz.f146.name == "runtime.NumGoroutine") = false := ⟨Tryz.func146, by kernel_rfl⟩
theorem fn147 : Tryz.prog.funcs[147]? = some Tryz.f147 ∧ (Tryz.f147.name == "runtime.NumGoroutine") = false := ⟨Tryz.func147, by kernel_rfl⟩
theorem fn148 : Tryz.prog.funcs[148]? = some Tryz.f148 ∧ (Tryz.f148.name == "runtime.NumGoroutine") = false := ⟨Tryz.func148, by kernel_rfl⟩
theorem fn149 : Tryz.prog.funcs[149]? = some Tryz.f149 ∧ (Tryz.f149.name == "runtime.NumGoroutine") = false := ⟨Tryz.func149, by kernel_rfl⟩
theorem fn150 : Tryz.prog.funcs[150]? = some Tryz.f150 ∧ (Tryz.f150.name == "runtime.NumGoroutine") = false := ⟨Tryz.func150, by kernel_rfl⟩
theorem fn151 : Tryz.prog.funcs[151]? = some Tryz.f151 ∧ (Tryz.f151.name == "runtime.NumGoroutine") = false := ⟨Tryz.func151, by kernel_rfl⟩
theorem fn152 : Tryz.prog.funcs[152]? = some Tryz.f152 ∧ (Tryz.f152.name == "runtime.NumGoroutine") = false := ⟨Tryz.func152, by kernel_rfl⟩
theorem fn153 : Tryz.prog.funcs[153]? = some Tryz.f153 ∧ (Tryz.f153.name == "runtime.NumGoroutine") = false := ⟨Tryz.func153, by kernel_rfl⟩
theorem fn154 : Tryz.prog.funcs[154]? = some Tryz.f154 ∧ (Tryz.f154.name == "runtime.NumGoroutine") = false := ⟨Tryz.func154, by kernel_rfl⟩
theorem fn155 : Tryz.prog.funcs[155]? = some Tryz.f155 ∧ (Tryz.f155.name == "runtime.NumGoroutine") = false := ⟨Tryz.func155, by kernel_rfl⟩
theorem fn156 : Tryz.prog.funcs[156]? = some Tryz.f156 ∧ (Tryz.f156.name == "runtime.NumGoroutine") = false := ⟨Tryz.func156, by kernel_rfl⟩
theorem fn157 : Tryz.prog.funcs[157]? = some Tryz.f157 ∧ (Tryz.f157.name == "runtime.NumGoroutine") = false := ⟨Tryz.func157, by kernel_rfl⟩
theorem fn158 : Tryz.prog.funcs[158]? = some Tryz.f158 ∧ (Tryz.f158.name == "runtime.NumGoroutine") = false := ⟨Tryz.func158, by kernel_rfl⟩
theorem fn159 : Tryz.prog.funcs[159]? = some Tryz.f159 ∧ (Tryz.f159.name == "runtime.NumGoroutine") = false := ⟨Tryz.func159, by kernel_rfl⟩
theorem fn160 : Tryz.prog.funcs[160]? = some Tryz.f160 ∧ (Tryz.f160.name == "runtime.NumGoroutine") = false := ⟨Tryz.func160, by kernel_rfl⟩
theorem fn161 : Tryz.prog.funcs[161]? = some Tryz.f161 ∧ (Tryz.f161.name == "runtime.NumGoroutine") = false := ⟨Tryz.func161, by kernel_rfl⟩
theorem fn162 : Tryz.prog.funcs[162]? = some Tryz.f162 ∧ (Tryz.f162.name == "runtime.NumGoroutine") = false := ⟨Tryz.func162, by kernel_rfl⟩
theorem fn163 : Tryz.prog.funcs[163]? = some Tryz.f163 ∧ (Tryz.f163.name == "runtime.NumGoroutine") = false := ⟨Tryz.func163, by kernel_rfl⟩
theorem fn164 : Tryz.prog.funcs[164]? = some Tryz.f164 ∧ (Tryz.f164.name == "runtime.NumGoroutine") = false := ⟨Tryz.func164, by kernel_rfl⟩
theorem fn165 : Tryz.prog.funcs[165]? = some Tryz.f165 ∧ (Tryz.f165.name == "runtime.NumGoroutine") = false := ⟨Tryz.func165, by kernel_rfl⟩
theorem fn166 : Tryz.prog.funcs[166]? = some Tryz.f166 ∧ (Tryz.f166.name == "runtime.NumGoroutine") = false := ⟨Tryz.func166, by kernel_rfl⟩
theorem fn167 : Tryz.prog.funcs[167]? = some Tryz.f167 ∧ (Tryz.f167.name == "runtime.NumGoroutine") = false := ⟨Tryz.func167, by kernel_rfl⟩
theorem fn168 : Tryz.prog.funcs[168]? = some Tryz.f168 ∧ (Tryz.f168.name == "runtime.NumGoroutine") = false := ⟨Tryz.func168, by kernel_rfl⟩
theorem fn169 : Tryz.prog.funcs[169]? = some Tryz.f169 ∧ (Tryz.f169.name == "runtime.NumGoroutine") = false := ⟨Tryz.func169, by kernel_rfl⟩
theorem fn170 : Tryz.prog.funcs[170]? = some Tryz.f170 ∧ (Tryz.f170.name == "runtime.NumGoroutine") = false := ⟨Tryz.func170, by kernel_rfl⟩
theorem fn171 : Tryz.prog.funcs[171]? = some Tryz.f171 ∧ (Tryz.f171.name == "runtime.NumGoroutine") = false := ⟨Tryz.func171, by kernel_rfl⟩
theorem fn172 : Tryz.prog.funcs[172]? = some Tryz.f172 ∧ (Tryz.f172.name == "runtime.NumGoroutine") = false := ⟨Tryz.func172, by kernel_rfl⟩
theorem fn173 : Tryz.prog.funcs[173]? = some Tryz.f173 ∧ (Tryz.f173.name == "runtime.NumGoroutine") = false := ⟨Tryz.func173, by kernel_rfl⟩
theorem fn174 : Tryz.prog.funcs[174]? = some Tryz.f174 ∧ (Tryz.f174.name == "runtime.NumGoroutine") = false := ⟨Tryz.func174, by kernel_rfl⟩
theorem fn175 : Tryz.prog.funcs[175]? = some Tryz.f175 ∧ (Tryz.f175.name == "runtime.NumGoroutine") = false := ⟨Tryz.func175, by kernel_rfl⟩
theorem fn176 : Tryz.prog.funcs[176]? = some Tryz.f176 ∧ (Tryz.f176.name == "runtime.NumGoroutine") = false := ⟨Tryz.func176, by kernel_rfl⟩
theorem fn177 : Tryz.prog.funcs[177]? = some Tryz.f177 ∧ (Tryz.f177.name == "runtime.NumGoroutine") = false := ⟨Tryz.func177, by kernel_rfl⟩
theorem fn178 : Tryz.prog.funcs[178]? = some Tryz.f178 ∧ (Tryz.f178.name == "runtime.NumGoroutine") = false := ⟨Tryz.func178, by kernel_rfl⟩
theorem fn179 : Tryz.prog.funcs[179]? = some Tryz.f179 ∧ (Tryz.f179.name == "runtime.NumGoroutine") = false := ⟨Tryz.func179, by kernel_rfl⟩
theorem fn180 : Tryz.prog.funcs[180]? = some Tryz.f180 ∧ (Tryz.f180.name == "runtime.NumGoroutine") = false := ⟨Tryz.func180, by kernel_rfl⟩
theorem fn181 : Tryz.prog.funcs[181]? = some Tryz.f181 ∧ (Tryz.f181.name == "runtime.NumGoroutine") = false := ⟨Tryz.func181, by kernel_rfl⟩
theorem fn182 : Tryz.prog.funcs[182]? = some Tryz.f182 ∧ (Tryz.f182.name == "runtime.NumGoroutine") = false := ⟨Tryz.func182, by kernel_rfl⟩
theorem fn183 : Tryz.prog.funcs[183]? = some Tryz.f183 ∧ (Tryz.f183.name == "runtime.NumGoroutine") = false := ⟨Tryz.func183, by kernel_rfl⟩
theorem fn184 : Tryz.prog.funcs[184]? = some Tryz.f184 ∧ (Tryz.f184.name == "runtime.NumGoroutine") = false := ⟨Tryz.func184, by kernel_rfl⟩
theorem fn185 : Tryz.prog.funcs[185]? = some Tryz.f185 ∧ (Tryz.f185.name == "runtime.NumGoroutine") = false := ⟨Tryz.func185, by kernel_rfl⟩
theorem fn186 : Tryz.prog.funcs[186]? = some Tryz.f186 ∧ (Tryz.f186.name == "runtime.NumGoroutine") = false := ⟨Tryz.func186, by kernel_rfl⟩
theorem fn187 : Tryz.prog.funcs[187]? = some Tryz.f187 ∧ (Tryz.f187.name == "runtime.NumGoroutine") = false := ⟨Tryz.func187, by kernel_rfl⟩
theorem fn188 : Tryz.prog.funcs[188]? = some Tryz.f188 ∧ (Tryz.f188.name == "runtime.NumGoroutine") = false := ⟨Tryz.func188, by kernel_rfl⟩
theorem fn189 : Tryz.prog.funcs[189]? = some Tryz.f189 ∧ (Tryz.f189.name == "runtime.NumGoroutine") = false := ⟨Tryz.func189, by kernel_rfl⟩
theorem fn190 : Tryz.prog.funcs[190]? = some Tryz.f190 ∧ (Tryz.f190.name == "runtime.NumGoroutine") = false := ⟨Tryz.func190, by kernel_rfl⟩
theorem fn191 : Tryz.prog.funcs[191]? = some Tryz.f191 ∧ (Tryz.f191.name == "runtime.NumGoroutine") = false := ⟨Tryz.func191, by kernel_rfl⟩
theorem fn192 : Tryz.prog.funcs[192]? = some Tryz.f192 ∧ (Tryz.f192.name == "runtime.NumGoroutine") = false := ⟨Tryz.func192, by kernel_rfl⟩
theorem fn193 : Tryz.prog.funcs[193]? = some Tryz.f193 ∧ (Tryz.f193.name == "runtime.NumGoroutine") = false := ⟨Tryz.func193, by kernel_rfl⟩
theorem fn194 : Tryz.prog.funcs[194]? = some Tryz.f194 ∧ (Tryz.f194.name == "runtime.NumGoroutine") = false := ⟨Tryz.func194, by kernel_rfl⟩
theorem fn195 : Tryz.prog.funcs[195]? = some Tryz.f195 ∧ (Tryz.f195.name == "runtime.NumGoroutine") = false := ⟨Tryz.func195, by kernel_rfl⟩
theorem fn196 : Tryz.prog.funcs[196]? = some Tryz.f196 ∧ (Tryz.f196.name == "runtime.NumGoroutine") = false := ⟨Tryz.func196, by kernel_rfl⟩
theorem fn197 : Tryz.prog.funcs[197]? = some Tryz.f197 ∧ (Tryz.f197.name == "runtime.NumGoroutine") = false := ⟨Tryz.func197, by kernel_rfl⟩
theorem fn198 : Tryz.prog.funcs[198]? = some Tryz.f198 ∧ (Tryz.f198.name == "runtime.NumGoroutine") = false := ⟨Tryz.func198, by kernel_rfl⟩
theorem fn199 : Tryz.prog.funcs[199]? = some Tryz.f199 ∧ (Tryz.f199.name == "runtime.NumGoroutine") = false := ⟨Tryz.func199, by kernel_rfl⟩
theorem fn200 : Tryz.prog.funcs[200]? = some Tryz.f200 ∧ (Tryz.f200.name == "runtime.NumGoroutine") = false := ⟨Tryz.func200, by kernel_rfl⟩
theorem fn201 : Tryz.prog.funcs[201]? = some Tryz.f201 ∧ (Tryz.f201.name == "runtime.NumGoroutine") = false := ⟨Tryz.func201, by kernel_rfl⟩
theorem fn202 : Tryz.prog.funcs[202]? = some Tryz.f202 ∧ (Tryz.f202.name == "runtime.NumGoroutine") = false := ⟨Tryz.func202, by kernel_rfl⟩
theorem fn203 : Tryz.prog.funcs[203]? = some Tryz.f203 ∧ (Tryz.f203.name == "runtime.NumGoroutine") = false := ⟨Tryz.func203, by kernel_rfl⟩
theorem fn204 : Tryz.prog.funcs[204]? = some Tryz.f204 ∧ (Tryz.f204.name == "runtime.NumGoroutine") = false := ⟨Tryz.func204, by kernel_rfl⟩
theorem fn205 : Tryz.prog.funcs[205]? = some Tryz.f205 ∧ (Tryz.f205.name == "runtime.NumGoroutine") = false := ⟨Tryz.func205, by kernel_rfl⟩
theorem fn206 : Tryz.prog.funcs[206]? = some Tryz.f206 ∧ (Tryz.f206.name == "runtime.NumGoroutine") = false := ⟨Tryz.func206, by kernel_rfl⟩
theorem fn207 : Tryz.prog.funcs[207]? = some Tryz.f207 ∧ (Tryz.f207.name == "runtime.NumGoroutine") = false := ⟨Tryz.func207, by kernel_rfl⟩
theorem fn208 : Tryz.prog.funcs[208]? = some Tryz.f208 ∧ (Tryz.f208.name == "runtime.NumGoroutine") = false := ⟨Tryz.func208, by kernel_rfl⟩
theorem fn209 : Tryz.prog.funcs[209]? = some Tryz.f209 ∧ (Tryz.f209.name == "runtime.NumGoroutine") = false := ⟨Tryz.func209, by kernel_rfl⟩
theorem fn210 : Tryz.prog.funcs[210]? = some Tryz.f210 ∧ (Tryz.f210.name == "runtime.NumGoroutine") = false := ⟨Tryz.func210, by kernel_rfl⟩
theorem fn211 : Tryz.prog.funcs[211]? = some Tryz.f211 ∧ (Tryz.f211.name == "runtime.NumGoroutine") = false := ⟨Tryz.func211, by kernel_rfl⟩
theorem fn212 : Tryz.prog.funcs[212]? = some Tryz.f212 ∧ (Tryz.f212.name == "runtime.NumGoroutine") = false := ⟨Tryz.func212, by kernel_rfl⟩
theorem fn213 : Tryz.prog.funcs[213]? = some Tryz.f213 ∧ (Tryz.f213.name == "runtime.NumGoroutine") = false := ⟨Tryz.func213, by kernel_rfl⟩
theorem fn214 : Tryz.prog.funcs[214]? = some Tryz.f214 ∧ (Tryz.f214.name == "runtime.NumGoroutine") = false := ⟨Tryz.func214, by kernel_rfl⟩
theorem fn215 : Tryz.prog.funcs[215]? = some Tryz.f215 ∧ (Tryz.f215.name == "runtime.NumGoroutine") = false := ⟨Tryz.func215, by kernel_rfl⟩
theorem fn216 : Tryz.prog.funcs[216]? = some Tryz.f216 ∧ (Tryz.f216.name == "runtime.NumGoroutine") = false := ⟨Tryz.func216, by kernel_rfl⟩
theorem fn217 : Tryz.prog.funcs[217]? = some Tryz.f217 ∧ (Tryz.f217.name == "runtime.NumGoroutine") = false := ⟨Tryz.func217, by kernel_rfl⟩
theorem fn218 : Tryz.prog.funcs[218]? = some Tryz.f218 ∧ (Tryz.f218.name == "runtime.NumGoroutine") = false := ⟨Tryz.func218, by kernel_rfl⟩
theorem fn219 : Tryz.prog.funcs[219]? = some Tryz.f219 ∧ (Tryz.f219.name == "runtime.NumGoroutine") = false := ⟨Tryz.func219, by kernel_rfl⟩
theorem fn220 : Tryz.prog.funcs[220]? = some Tryz.f220 ∧ (Tryz.f220.name == "runtime.NumGoroutine") = false := ⟨Tryz.func220, by kernel_rfl⟩
theorem fn221 : Tryz.prog.funcs[221]? = some Tryz.f221 ∧ (Tryz.f221.name == "runtime.NumGoroutine") = false := ⟨Tryz.func221, by kernel_rfl⟩
theorem fn222 : Tryz.prog.funcs[222]? = some Tryz.f222 ∧ (Tryz.f222.name == "runtime.NumGoroutine") = false := ⟨Tryz.func222, by kernel_rfl⟩
theorem fn223 : Tryz.prog.funcs[223]? = some Tryz.f223 ∧ (Tryz.f223.name == "runtime.NumGoroutine") = false := ⟨Tryz.func223, by kernel_rfl⟩
theorem fn224 : Tryz.prog.funcs[224]? = some Tryz.f224 ∧ (Tryz.f224.name == "runtime.NumGoroutine") = false := ⟨Tryz.func224, by kernel_rfl⟩
theorem fn225 : Tryz.prog.funcs[225]? = some Tryz.f225 ∧ (Tryz.f225.name == "runtime.NumGoroutine") = false := ⟨Tryz.func225, by kernel_rfl⟩
theorem fn226 : Tryz.prog.funcs[226]? = some Tryz.f226 ∧ (Tryz.f226.name == "runtime.NumGoroutine") = false := ⟨Tryz.func226, by kernel_rfl⟩
theorem fn227 : Tryz.prog.funcs[227]? = some Tryz.f227 ∧ (Tryz.f227.name == "runtime.NumGoroutine") = false := ⟨Tryz.func227, by kernel_rfl⟩
theorem fn228 : Tryz.prog.funcs[228]? = some Tryz.f228 ∧ (Tryz.f228.name == "runtime.NumGoroutine") = false := ⟨Tryz.func228, by kernel_rfl⟩
theorem fn229 : Tryz.prog.funcs[229]? = some Tryz.f229 ∧ (Tryz.f229.name == "runtime.NumGoroutine") = false := ⟨Tryz.func229, by kernel_rfl⟩
theorem fn230 : Tryz.prog.funcs[230]? = some Tryz.f230 ∧ (Tryz.f230.name == "runtime.NumGoroutine") = false := ⟨Tryz.func230, by kernel_rfl⟩
theorem fn231 : Tryz.prog.funcs[231]? = some Tryz.f231 ∧ (Tryz.f231.name == "runtime.NumGoroutine") = false := ⟨Tryz.func231, by kernel_rfl⟩
theorem fn232 : Tryz.prog.funcs[232]? = some Tryz.f232 ∧ (Tryz.f232.name == "runtime.NumGoroutine") = false := ⟨Tryz.func232, by kernel_rfl⟩
theorem fn238 : Tryz.prog.funcs[238]? = some Tryz.f238 ∧ (Tryz.f238.name == "runtime.NumGoroutine") = false := ⟨Tryz.func238, by kernel_rfl⟩
theorem fn240 : Tryz.prog.funcs[240]? = some Tryz.f240 ∧ (Tryz.f240.name == "runtime.NumGoroutine") = false := ⟨Tryz.func240, by kernel_rfl⟩
theorem fn241 : Tryz.prog.funcs[241]? = some Tryz.f241 ∧ (Tryz.f241.name == "runtime.NumGoroutine") = false := ⟨Tryz.func241, by kernel_rfl⟩
theorem fn242 : Tryz.prog.funcs[242]? = some Tryz.f242 ∧ (Tryz.f242.name == "runtime.NumGoroutine") = false := ⟨Tryz.func242, by kernel_rfl⟩
theorem fn243 : Tryz.prog.funcs[243]? = some Tryz.f243 ∧ (Tryz.f243.name == "runtime.NumGoroutine") = false := ⟨Tryz.func243, by kernel_rfl⟩
theorem fn244 : Tryz.prog.funcs[244]? = some Tryz.f244 ∧ (Tryz.f244.name == "runtime.NumGoroutine") = false := ⟨Tryz.func244, by kernel_rfl⟩
theorem fn245 : Tryz.prog.funcs[245]? = some Tryz.f245 ∧ (Tryz.f245.name == "runtime.NumGoroutine") = false := ⟨Tryz.func245, by kernel_rfl⟩
theorem fn246 : Tryz.prog.funcs[246]? = some Tryz.f246 ∧ (Tryz.f246.name == "runtime.NumGoroutine") = false := ⟨Tryz.func246, by kernel_rfl⟩
theorem fn247 : Tryz.prog.funcs[247]? = some Tryz.f247 ∧ (Tryz.f247.name == "runtime.NumGoroutine") = false := ⟨Tryz.func247, by kernel_rfl⟩
theorem fn248 : Tryz.prog.funcs[248]? = some Tryz.f248 ∧ (Tryz.f248.name == "runtime.NumGoroutine") = false := ⟨Tryz.func248, by kernel_rfl⟩
theorem fn249 : Tryz.prog.funcs[249]? = some Tryz.f249 ∧ (Tryz.f249.name == "runtime.NumGoroutine") = false := ⟨Tryz.func249, by kernel_rfl⟩
theorem fn250 : Tryz.prog.funcs[250]? = some Tryz.f250 ∧ (Tryz.f250.name == "runtime.NumGoroutine") = false := ⟨Tryz.func250, by kernel_rfl⟩
theorem fn251 : Tryz.prog.funcs[251]? = some Tryz.f251 ∧ (Tryz.f251.name == "runtime.NumGoroutine") = false := ⟨Tryz.func251, by kernel_rfl⟩
theorem fn252 : Tryz.prog.funcs[252]? = some Tryz.f252 ∧ (Tryz.f252.name == "runtime.NumGoroutine") = false := ⟨Tryz.func252, by kernel_rfl⟩
theorem fn253 : Tryz.prog.funcs[253]? = some Tryz.f253 ∧ (Tryz.f253.name == "runtime.NumGoroutine") = false := ⟨Tryz.func253, by kernel_rfl⟩
theorem fn254 : Tryz.prog.funcs[254]? = some Tryz.f254 ∧ (Tryz.f254.name == "runtime.NumGoroutine") = false := ⟨Tryz.func254, by kernel_rfl⟩
theorem fn255 : Tryz.prog.funcs[255]? = some Tryz.f255 ∧ (Tryz.f255.name == "runtime.NumGoroutine") = false := ⟨Tryz.func255, by kernel_rfl⟩
theorem fn256 : Tryz.prog.funcs[256]? = some Tryz.f256 ∧ (Tryz.f256.name == "runtime.NumGoroutine") = false := ⟨Tryz.func256, by kernel_rfl⟩
theorem fn257 : Tryz.prog.funcs[257]? = some Tryz.f257 ∧ (Tryz.f257.name == "runtime.NumGoroutine") = false := ⟨Tryz.func257, by kernel_rfl⟩
theorem fn258 : Tryz.prog.funcs[258]? = some Tryz.f258 ∧ (Tryz.f258.name == "runtime.NumGoroutine") = false := ⟨Tryz.func258, by kernel_rfl⟩
theorem fn259 : Tryz.prog.funcs[259]? = some Tryz.f259 ∧ (Tryz.f259.name == "runtime.NumGoroutine") = false := ⟨Tryz.func259, by kernel_rfl⟩
theorem fn260 : Tryz.prog.funcs[260]? = some Tryz.f260 ∧ (Tryz.f260.name == "runtime.NumGoroutine") = false := ⟨Tryz.func260, by kernel_rfl⟩
theorem fn261 : Tryz.prog.funcs[261]? = some Tryz.f261 ∧ (Tryz.f261.name == "runtime.NumGoroutine") = false := ⟨Tryz.func261, by kernel_rfl⟩
theorem fn262 : Tryz.prog.funcs[262]? = some Tryz.f262 ∧ (Tryz.f262.name == "runtime.NumGoroutine") = false := ⟨Tryz.func262, by kernel_rfl⟩
theorem fn263 : Tryz.prog.funcs[263]? = some Tryz.f263 ∧ (Tryz.f263.name == "runtime.NumGoroutine") = false := ⟨Tryz.func263, by kernel_rfl⟩
theorem fn264 : Tryz.prog.funcs[264]? = some Tryz.f264 ∧ (Tryz.f264.name == "runtime.NumGoroutine") = false := ⟨Tryz.func264, by kernel_rfl⟩
theorem fn265 : Tryz.prog.funcs[265]? = some Tryz.f265 ∧ (Tryz.f265.name == "runtime.NumGoroutine") = false := ⟨Tryz.func265, by kernel_rfl⟩
theorem fn266 : Tryz.prog.funcs[266]? = some Tryz.f266 ∧ (Tryz.f266.name == "runtime.NumGoroutine") = false := ⟨Tryz.func266, by kernel_rfl⟩
theorem fn267 : Tryz.prog.funcs[267]? = some Tryz.f267 ∧ (Tryz.f267.name == "runtime.NumGoroutine") = false := ⟨Tryz.func267, by kernel_rfl⟩
theorem fn268 : Tryz.prog.funcs[268]? = some Tryz.f268 ∧ (Tryz.f268.name == "runtime.NumGoroutine") = false := ⟨Tryz.func268, by kernel_rfl⟩
theorem fn269 : Tryz.prog.funcs[269]? = some Tryz.f269 ∧ (Tryz.f269.name == "runtime.NumGoroutine") = false := ⟨Tryz.func269, by kernel_rfl⟩
theorem fn270 : Tryz.prog.funcs[270]? = some Tryz.f270 ∧ (Tryz.f270.name == "runtime.NumGoroutine") = false := ⟨Tryz.func270, by kernel_rfl⟩
theorem fn271 : Tryz.prog.funcs[271]? = some Tryz.f271 ∧ (Tryz.f271.name == "runtime.NumGoroutine") = false := ⟨Tryz.func271, by kernel_rfl⟩
theorem fn272 : Tryz.prog.funcs[272]? = some Tryz.f272 ∧ (Tryz.f272.name == "runtime.NumGoroutine") = false := ⟨Tryz.func272, by kernel_rfl⟩
theorem fn273 : Tryz.prog.funcs[273]? = some Tryz.f273 ∧ (Tryz.f273.name == "runtime.NumGoroutine") = false := ⟨Tryz.func273, by kernel_rfl⟩
theorem fn274 : Tryz.prog.funcs[274]? = some Tryz.f274 ∧ (Tryz.f274.name == "runtime.NumGoroutine") = false := ⟨Tryz.func274, by kernel_rfl⟩
theorem fn275 : Tryz.prog.funcs[275]? = some Tryz.f275 ∧ (Tryz.f275.name == "runtime.NumGoroutine") = false := ⟨Tryz.func275, by kernel_rfl⟩
theorem fn276 : Tryz.prog.funcs[276]? = some Tryz.f276 ∧ (Tryz.f276.name == "runtime.NumGoroutine") = false := ⟨Tryz.func276, by kernel_rfl⟩
theorem fn277 : Tryz.prog.funcs[277]? = some Tryz.f277 ∧ (Tryz.f277.name == "runtime.NumGoroutine") = false := ⟨Tryz.func277, by kernel_rfl⟩
theorem fn278 : Tryz.prog.funcs[278]? = some Tryz.f278 ∧ (Tryz.f278.name == "runtime.NumGoroutine") = false := ⟨Tryz.func278, by kernel_rfl⟩
theorem fn279 : Tryz.prog.funcs[279]? = some Tryz.f279 ∧ (Tryz.f279.name == "runtime.NumGoroutine") = false := ⟨Tryz.func279, by kernel_rfl⟩
theorem fn280 : Tryz.prog.funcs[280]? = some Tryz.f280 ∧ (Tryz.f280.name == "runtime.NumGoroutine") = false := ⟨Tryz.func280, by kernel_rfl⟩
theorem fn281 : Tryz.prog.funcs[281]? = some Tryz.f281 ∧ (Tryz.f281.name == "runtime.NumGoroutine") = false := ⟨Tryz.func281, by kernel_rfl⟩
theorem fn282 : Tryz.prog.funcs[282]? = some Tryz.f282 ∧ (Tryz.f282.name == "runtime.NumGoroutine") = false := ⟨Tryz.func282, by kernel_rfl⟩
theorem fn283 : Tryz.prog.funcs[283]? = some Tryz.f283 ∧ (Tryz.f283.name == "runtime.NumGoroutine") = false := ⟨Tryz.func283, by kernel_rfl⟩
theorem fn284 : Tryz.prog.funcs[284]? = some Tryz.f284 ∧ (Tryz.f284.name == "runtime.NumGoroutine") = false := ⟨Tryz.func284, by kernel_rfl⟩
theorem fn285 : Tryz.prog.funcs[285]? = some Tryz.f285 ∧ (Tryz.f285.name == "runtime.NumGoroutine") = false := ⟨Tryz.func285, by kernel_rfl⟩
theorem fn286 : Tryz.prog.funcs[286]? = some Tryz.f286 ∧ (Tryz.f286.name == "runtime.NumGoroutine") = false := ⟨Tryz.func286, by kernel_rfl⟩
theorem fn287 : Tryz.prog.funcs[287]? = some Tryz.f287 ∧ (Tryz.f287.name == "runtime.NumGoroutine") = false := ⟨Tryz.func287, by kernel_rfl⟩
theorem fn288 : Tryz.prog.funcs[288]? = some Tryz.f288 ∧ (Tryz.f288.name == "runtime.NumGoroutine") = false := ⟨Tryz.func288, by kernel_rfl⟩
theorem fn289 : Tryz.prog.funcs[289]? = some Tryz.f289 ∧ (Tryz.f289.name == "runtime.NumGoroutine") = false := ⟨Tryz.func289, by kernel_rfl⟩
theorem fn290 : Tryz.prog.funcs[290]? = some Tryz.f290 ∧ (Tryz.f290.name == "runtime.NumGoroutine") = false := ⟨Tryz.func290, by kernel_rfl⟩
theorem fn291 : Tryz.prog.funcs[291]? = some Tryz.f291 ∧ (Tryz.f291.name == "runtime.NumGoroutine") = false := ⟨Tryz.func291, by kernel_rfl⟩
theorem fn292 : Tryz.prog.funcs[292]? = some Tryz.f292 ∧ (Tryz.f292.name == "runtime.NumGoroutine") = false := ⟨Tryz.func292, by kernel_rfl⟩
theorem fn293 : Tryz.prog.funcs[293]? = some Tryz.f293 ∧ (Tryz.f293.name == "runtime.NumGoroutine") = false := ⟨Tryz.func293, by kernel_rfl⟩
theorem fn294 : Tryz.prog.funcs[294]? = some Tryz.f294 ∧ (Tryz.f294.name == "runtime.NumGoroutine") = false := ⟨Tryz.func294, by kernel_rfl⟩
theorem fn295 : Tryz.prog.funcs[295]? = some Tryz.f295 ∧ (Tryz.f295.name == "runtime.NumGoroutine") = false := ⟨Tryz.func295, by kernel_rfl⟩
theorem fn296 : Tryz.prog.funcs[296]? = some Tryz.f296 ∧ (Tryz.f296.name == "runtime.NumGoroutine") = false := ⟨Tryz.func296, by kernel_rfl⟩
theorem fn297 : Tryz.prog.funcs[297]? = some Tryz.f297 ∧ (Tryz.f297.name == "runtime.NumGoroutine") = false := ⟨Tryz.func297, by kernel_rfl⟩
theorem fn298 : Tryz.prog.funcs[298]? = some Tryz.f298 ∧ (Tryz.f298.name == "runtime.NumGoroutine") = false := ⟨Tryz.func298, by kernel_rfl⟩
theorem fn299 : Tryz.prog.funcs[299]? = some Tryz.f299 ∧ (Tryz.f299.name == "runtime.NumGoroutine") = false := ⟨Tryz.func299, by kernel_rfl⟩
theorem fn300 : Tryz.prog.funcs[300]? = some Tryz.f300 ∧ (Tryz.f300.name == "runtime.NumGoroutine") = false := ⟨Tryz.func300, by kernel_rfl⟩
theorem fn301 : Tryz.prog.funcs[301]? = some Tryz.f301 ∧ (Tryz.f301.name == "runtime.NumGoroutine") = false := ⟨Tryz.func301, by kernel_rfl⟩
theorem fn302 : Tryz.prog.funcs[302]? = some Tryz.f302 ∧ (Tryz.f302.name == "runtime.NumGoroutine") = false := ⟨Tryz.func302, by kernel_rfl⟩
theorem fn303 : Tryz.prog.funcs[303]? = some Tryz.f303 ∧ (Tryz.f303.name == "runtime.NumGoroutine") = false := ⟨Tryz.func303, by kernel_rfl⟩
theorem fn304 : Tryz.prog.funcs[304]? = some Tryz.f304 ∧ (Tryz.f304.name == "runtime.NumGoroutine") = false := ⟨Tryz.func304, by kernel_rfl⟩
theorem fn305 : Tryz.prog.funcs[305]? = some Tryz.f305 ∧ (Tryz.f305.name == "runtime.NumGoroutine") = false := ⟨Tryz.func305, by kernel_rfl⟩
theorem fn306 : Tryz.prog.funcs[306]? = some Tryz.f306 ∧ (Tryz.f306.name == "runtime.NumGoroutine") = false := ⟨Tryz.func306, by kernel_rfl⟩
theorem fn307 : Tryz.prog.funcs[307]? = some Tryz.f307 ∧ (Tryz.f307.name == "runtime.NumGoroutine") = false := ⟨Tryz.func307, by kernel_rfl⟩
theorem fn308 : Tryz.prog.funcs[308]? = some Tryz.f308 ∧ (Tryz.f308.name == "runtime.NumGoroutine") = false := ⟨Tryz.func308, by kernel_rfl⟩
theorem fn309 : Tryz.prog.funcs[309]? = some Tryz.f309 ∧ (Tryz.f309.name == "runtime.NumGoroutine") = false := ⟨Tryz.func309, by kernel_rfl⟩
theorem fn310 : Tryz.prog.funcs[310]? = some Tryz.f310 ∧ (Tryz.f310.name == "runtime.NumGoroutine") = false := ⟨Tryz.func310, by kernel_rfl⟩
theorem fn311 : Tryz.prog.funcs[311]? = some Tryz.f311 ∧ (Tryz.f311.name == "runtime.NumGoroutine") = false := ⟨Tryz.func311, by kernel_rfl⟩
theorem fn312 : Tryz.prog.funcs[312]? = some Tryz.f312 ∧ (Tryz.f312.name == "runtime.NumGoroutine") = false := ⟨Tryz.func312, by kernel_rfl⟩
theorem fn313 : Tryz.prog.funcs[313]? = some Tryz.f313 ∧ (Tryz.f313.name == "runtime.NumGoroutine") = false := ⟨Tryz.func313, by kernel_rfl⟩
theorem fn314 : Tryz.prog.funcs[314]? = some Tryz.f314 ∧ (Tryz.f314.name == "runtime.NumGoroutine") = false := ⟨Tryz.func314, by kernel_rfl⟩
theorem fn315 : Tryz.prog.funcs[315]? = some Tryz.f315 ∧ (Tryz.f315.name == "runtime.NumGoroutine") = false := ⟨Tryz.func315, by kernel_rfl⟩
theorem fn316 : Tryz.prog.funcs[316]? = some Tryz.f316 ∧ (Tryz.f316.name == "runtime.NumGoroutine") = false := ⟨Tryz.func316, by kernel_rfl⟩
theorem fn317 : Tryz.prog.funcs[317]? = some Tryz.f317 ∧ (Tryz.f317.name == "runtime.NumGoroutine") = false := ⟨Tryz.func317, by kernel_rfl⟩
theorem fn318 : Tryz.prog.funcs[318]? = some Tryz.f318 ∧ (Tryz.f318.name == "runtime.NumGoroutine") = false := ⟨Tryz.func318, by kernel_rfl⟩
theorem fn322 : Tryz.prog.funcs[322]? = some Tryz.f322 ∧ (Tryz.f322.name == "runtime.NumGoroutine") = false := ⟨Tryz.func322, by kernel_rfl⟩
theorem fn323 : Tryz.prog.funcs[323]? = some Tryz.f323 ∧ (Tryz.f323.name == "runtime.NumGoroutine") = false := ⟨Tryz.func323, by kernel_rfl⟩
theorem fn324 : Tryz.prog.funcs[324]? = some Tryz.f324 ∧ (Tryz.f324.name == "runtime.NumGoroutine") = false := ⟨Tryz.func324, by kernel_rfl⟩
theorem fn325 : Tryz.prog.funcs[325]? = some Tryz.f325 ∧ (Tryz.f325.name == "runtime.NumGoroutine") = false := ⟨Tryz.func325, by kernel_rfl⟩
theorem fn326 : Tryz.prog.funcs[326]? = some Tryz.f326 ∧ (Tryz.f326.name == "runtime.NumGoroutine") = false := ⟨Tryz.func326, by kernel_rfl⟩
theorem fn327 : Tryz.prog.funcs[327]? = some Tryz.f327 ∧ (Tryz.f327.name == "runtime.NumGoroutine") = false := ⟨Tryz.func327, by kernel_rfl⟩
theorem fn328 : Tryz.prog.funcs[328]? = some Tryz.f328 ∧ (Tryz.f328.name == "runtime.NumGoroutine") = false := ⟨Tryz.func328, by kernel_rfl⟩
theorem fn329 : Tryz.prog.funcs[329]? = some Tryz.f329 ∧ (Tryz.f329.name == "runtime.NumGoroutine") = false := ⟨Tryz.func329, by kernel_rfl⟩
theorem fn330 : Tryz.prog.funcs[330]? = some Tryz.f330 ∧ (Tryz.f330.name == "runtime.NumGoroutine") = false := ⟨Tryz.func330, by kernel_rfl⟩
theorem fn331 : Tryz.prog.funcs[331]? = some Tryz.f331 ∧ (Tryz.f331.name == "runtime.NumGoroutine") = false := ⟨Tryz.func331, by kernel_rfl⟩
theorem fn332 : Tryz.prog.funcs[332]? = some Tryz.f332 ∧ (Tryz.f332.name == "runtime.NumGoroutine") = false := ⟨Tryz.func332, by kernel_rfl⟩
theorem fn333 : Tryz.prog.funcs[333]? = some Tryz.f333 ∧ (Tryz.f333.name == "runtime.NumGoroutine") = false := ⟨Tryz.func333, by kernel_rfl⟩
theorem fn334 : Tryz.prog.funcs[334]? = some Tryz.f334 ∧ (Tryz.f334.name == "runtime.NumGoroutine") = false := ⟨Tryz.func334, by kernel_rfl⟩
theorem fn335 : Tryz.prog.funcs[335]? = some Tryz.f335 ∧ (Tryz.f335.name == "runtime.NumGoroutine") = false := ⟨Tryz.func335, by kernel_rfl⟩
theorem fn336 : Tryz.prog.funcs[336]? = some Tryz.f336 ∧ (Tryz.f336.name == "runtime.NumGoroutine") = false := ⟨Tryz.func336, by kernel_rfl⟩
theorem fn337 : Tryz.prog.funcs[337]? = some Tryz.f337 ∧ (Tryz.f337.name == "runtime.NumGoroutine") = false := ⟨Tryz.func337, by kernel_rfl⟩
theorem fn338 : Tryz.prog.funcs[338]? = some Tryz.f338 ∧ (Tryz.f338.name == "runtime.NumGoroutine") = false := ⟨Tryz.func338, by kernel_rfl⟩
theorem fn339 : Tryz.prog.funcs[339]? = some Tryz.f339 ∧ (Tryz.f339.name == "runtime.NumGoroutine") = false := ⟨Tryz.func339, by kernel_rfl⟩
theorem fn340 : Tryz.prog.funcs[340]? = some Tryz.f340 ∧ (Tryz.f340.name == "runtime.NumGoroutine") = false := ⟨Tryz.func340, by kernel_rfl⟩
theorem fn341 : Tryz.prog.funcs[341]? = some Tryz.f341 ∧ (Tryz.f341.name == "runtime.NumGoroutine") = false := ⟨Tryz.func341, by kernel_rfl⟩
theorem fn342 : Tryz.prog.funcs[342]? = some Tryz.f342 ∧ (Tryz.f342.name == "runtime.NumGoroutine") = false := ⟨Tryz.func342, by kernel_rfl⟩
theorem fn343 : Tryz.prog.funcs[343]? = some Tryz.f343 ∧ (Tryz.f343.name == "runtime.NumGoroutine") = false := ⟨Tryz.func343, by kernel_rfl⟩
theorem fn344 : Tryz.prog.funcs[344]? = some Tryz.f344 ∧ (Tryz.f344.name == "runtime.NumGoroutine") = false := ⟨Tryz.func344, by kernel_rfl⟩
theorem fn345 : Tryz.prog.funcs[345]? = some Tryz.f345 ∧ (Tryz.f345.name == "runtime.NumGoroutine") = false := ⟨Tryz.func345, by kernel_rfl⟩
theorem fn346 : Tryz.prog.funcs[346]? = some Tryz.f346 ∧ (Tryz.f346.name == "runtime.NumGoroutine") = false := ⟨Tryz.func346, by kernel_rfl⟩
theorem fn347 : Tryz.prog.funcs[347]? = some Tryz.f347 ∧ (Tryz.f347.name == "runtime.NumGoroutine") = false := ⟨Tryz.func347, by kernel_rfl⟩
theorem fn348 : Tryz.prog.funcs[348]? = some Tryz.f348 ∧ (Tryz.f348.name == "runtime.NumGoroutine") = false := ⟨Tryz.func348, by kernel_rfl⟩
theorem fn349 : Tryz.prog.funcs[349]? = some Tryz.f349 ∧ (Tryz.f349.name == "runtime.NumGoroutine") = false := ⟨Tryz.func349, by kernel_rfl⟩
theorem fn350 : Tryz.prog.funcs[350]? = some Tryz.f350 ∧ (Tryz.f350.name == "runtime.NumGoroutine") = false := ⟨Tryz.func350, by kernel_rfl⟩
theorem fn351 : Tryz.prog.funcs[351]? = some Tryz.f351 ∧ (Tryz.f351.name == "runtime.NumGoroutine") = false := ⟨Tryz.func351, by kernel_rfl⟩
theorem fn352 : Tryz.prog.funcs[352]? = some Tryz.f352 ∧ (Tryz.f352.name == "runtime.NumGoroutine") = false := ⟨Tryz.func352, by kernel_rfl⟩
theorem fn353 : Tryz.prog.funcs[353]? = some Tryz.f353 ∧ (Tryz.f353.name == "runtime.NumGoroutine") = false := ⟨Tryz.func353, by kernel_rfl⟩
theorem fn354 : Tryz.prog.funcs[354]? = some Tryz.f354 ∧ (Tryz.f354.name == "runtime.NumGoroutine") = false := ⟨Tryz.func354, by kernel_rfl⟩
theorem fn355 : Tryz.prog.funcs[355]? = some Tryz.f355 ∧ (Tryz.f355.name == "runtime.NumGoroutine") = false := ⟨Tryz.func355, by kernel_rfl⟩
theorem fn356 : Tryz.prog.funcs[356]? = some Tryz.f356 ∧ (Tryz.f356.name == "runtime.NumGoroutine") = false := ⟨Tryz.func356, by kernel_rfl⟩
theorem fn357 : Tryz.prog.funcs[357]? = some Tryz.f357 ∧ (Tryz.f357.name == "runtime.NumGoroutine") = false := ⟨Tryz.func357, by kernel_rfl⟩
theorem fn358 : Tryz.prog.funcs[358]? = some Tryz.f358 ∧ (Tryz.f358.name == "runtime.NumGoroutine") = false := ⟨Tryz.func358, by kernel_rfl⟩
theorem fn359 : Tryz.prog.funcs[359]? = some Tryz.f359 ∧ (Tryz.f359.name == "runtime.NumGoroutine") = false := ⟨Tryz.func359, by kernel_rfl⟩
theorem fn360 : Tryz.prog.funcs[360]? = some Tryz.f360 ∧ (Tryz.f360.name == "runtime.NumGoroutine") = false := ⟨Tryz.func360, by kernel_rfl⟩
theorem fn361 : Tryz.prog.funcs[361]? = some Tryz.f361 ∧ (Tryz.f361.name == "runtime.NumGoroutine") = false := ⟨Tryz.func361, by kernel_rfl⟩
theorem fn362 : Tryz.prog.funcs[362]? = some Tryz.f362 ∧ (Tryz.f362.name == "runtime.NumGoroutine") = false := ⟨Tryz.func362, by kernel_rfl⟩
theorem fn363 : Tryz.prog.funcs[363]? = some Tryz.f363 ∧ (Tryz.f363.name == "runtime.NumGoroutine") = false := ⟨Tryz.func363, by kernel_rfl⟩
theorem fn364 : Tryz.prog.funcs[364]? = some Tryz.f364 ∧ (Tryz.f364.name == "runtime.NumGoroutine") = false := ⟨Tryz.func364, by kernel_rfl⟩
theorem fn365 : Tryz.prog.funcs[365]? = some Tryz.f365 ∧ (Tryz.f365.name == "runtime.NumGoroutine") = false := ⟨Tryz.func365, by kernel_rfl⟩
theorem fn366 : Tryz.prog.funcs[366]? = some Tryz.f366 ∧ (Tryz.f366.name == "runtime.NumGoroutine") = false := ⟨Tryz.func366, by kernel_rfl⟩
theorem fn367 : Tryz.prog.funcs[367]? = some Tryz.f367 ∧ (Tryz.f367.name == "runtime.NumGoroutine") = false := ⟨Tryz.func367, by kernel_rfl⟩
theorem fn368 : Tryz.prog.funcs[368]? = some Tryz.f368 ∧ (Tryz.f368.name == "runtime.NumGoroutine") = false := ⟨Tryz.func368, by kernel_rfl⟩
theorem fn369 : Tryz.prog.funcs[369]? = some Tryz.f369 ∧ (Tryz.f369.name == "runtime.NumGoroutine") = false := ⟨Tryz.func369, by kernel_rfl⟩
theorem fn370 : Tryz.prog.funcs[370]? = some Tryz.f370 ∧ (Tryz.f370.name == "runtime.NumGoroutine") = false := ⟨Tryz.func370, by kernel_rfl⟩
theorem fn371 : Tryz.prog.funcs[371]? = some Tryz.f371 ∧ (Tryz.f371.name == "runtime.NumGoroutine") = false := ⟨Tryz.func371, by kernel_rfl⟩
theorem fn372 : Tryz.prog.funcs[372]? = some Tryz.f372 ∧ (Tryz.f372.name == "runtime.NumGoroutine") = false := ⟨Tryz.func372, by kernel_rfl⟩
theorem fn373 : Tryz.prog.funcs[373]? = some Tryz.f373 ∧ (Tryz.f373.name == "runtime.NumGoroutine") = false := ⟨Tryz.func373, by kernel_rfl⟩
theorem fn374 : Tryz.prog.funcs[374]? = some Tryz.f374 ∧ (Tryz.f374.name == "runtime.NumGoroutine") = false := ⟨Tryz.func374, by kernel_rfl⟩
theorem fn375 : Tryz.prog.funcs[375]? = some Tryz.f375 ∧ (Tryz.f375.name == "runtime.NumGoroutine") = false := ⟨Tryz.func375, by kernel_rfl⟩
theorem fn376 : Tryz.prog.funcs[376]? = some Tryz.f376 ∧ (Tryz.f376.name == "runtime.NumGoroutine") = false := ⟨Tryz.func376, by kernel_rfl⟩
theorem fn377 : Tryz.prog.funcs[377]? = some Tryz.f377 ∧ (Tryz.f377.name == "runtime.NumGoroutine") = false := ⟨Tryz.func377, by kernel_rfl⟩
theorem fn378 : Tryz.prog.funcs[378]? = some Tryz.f378 ∧ (Tryz.f378.name == "runtime.NumGoroutine") = false := ⟨Tryz.func378, by kernel_rfl⟩
theorem fn379 : Tryz.prog.funcs[379]? = some Tryz.f379 ∧ (Tryz.f379.name == "runtime.NumGoroutine") = false := ⟨Tryz.func379, by kernel_rfl⟩
theorem fn380 : Tryz.prog.funcs[380]? = some Tryz.f380 ∧ (Tryz.f380.name == "runtime.NumGoroutine") = false := ⟨Tryz.func380, by kernel_rfl⟩
theorem fn381 : Tryz.prog.funcs[381]? = some Tryz.f381 ∧ (Tryz.f381.name == "runtime.NumGoroutine") = false := ⟨Tryz.func381, by kernel_rfl⟩
theorem fn382 : Tryz.prog.funcs[382]? = some Tryz.f382 ∧ (Tryz.f382.name == "runtime.NumGoroutine") = false := ⟨Tryz.func382, by kernel_rfl⟩
theorem fn383 : Tryz.prog.funcs[383]? = some Tryz.f383 ∧ (Tryz.f383.name == "runtime.NumGoroutine") = false := ⟨Tryz.func383, by kernel_rfl⟩
theorem fn386 : Tryz.prog.funcs[386]? = some Tryz.f386 ∧ (Tryz.f386.name == "runtime.NumGoroutine") = false := ⟨Tryz.func386, by kernel_rfl⟩
theorem fn387 : Tryz.prog.funcs[387]? = some Tryz.f387 ∧ (Tryz.f387.name == "runtime.NumGoroutine") = false := ⟨Tryz.func387, by kernel_rfl⟩
theorem fn388 : Tryz.prog.funcs[388]? = some Tryz.f388 ∧ (Tryz.f388.name == "runtime.NumGoroutine") = false := ⟨Tryz.func388, by kernel_rfl⟩
theorem fn389 : Tryz.prog.funcs[389]? = some Tryz.f389 ∧ (Tryz.f389.name == "runtime.NumGoroutine") = false := ⟨Tryz.func389, by kernel_rfl⟩
theorem fn390 : Tryz.prog.funcs[390]? = some Tryz.f390 ∧ (Tryz.f390.name == "runtime.NumGoroutine") = false := ⟨Tryz.func390, by kernel_rfl⟩
theorem fn391 : Tryz.prog.funcs[391]? = some Tryz.f391 ∧ (Tryz.f391.name == "runtime.NumGoroutine") = false := ⟨Tryz.func391, by kernel_rfl⟩
theorem fn392 : Tryz.prog.funcs[392]? = some Tryz.f392 ∧ (Tryz.f392.name == "runtime.NumGoroutine") = false := ⟨Tryz.func392, by kernel_rfl⟩
theorem fn393 : Tryz.prog.funcs[393]? = some Tryz.f393 ∧ (Tryz.f393.name == "runtime.NumGoroutine") = false := ⟨Tryz.func393, by kernel_rfl⟩
theorem fn394 : Tryz.prog.funcs[394]? = some Tryz.f394 ∧ (Tryz.f394.name == "runtime.NumGoroutine") = false := ⟨Tryz.func394, by kernel_rfl⟩
theorem fn395 : Tryz.prog.funcs[395]? = some Tryz.f395 ∧ (Tryz.f395.name == "runtime.NumGoroutine") = false := ⟨Tryz.func395, by kernel_rfl⟩
theorem fn396 : Tryz.prog.funcs[396]? = some Tryz.f396 ∧ (Tryz.f396.name == "runtime.NumGoroutine") = false := ⟨Tryz.func396, by kernel_rfl⟩
theorem fn397 : Tryz.prog.funcs[397]? = some Tryz.f397 ∧ (Tryz.f397.name == "runtime.NumGoroutine") = false := ⟨Tryz.func397, by kernel_rfl⟩
theorem fn398 : Tryz.prog.funcs[398]? = some Tryz.f398 ∧ (Tryz.f398.name == "runtime.NumGoroutine") = false := ⟨Tryz.func398, by kernel_rfl⟩
theorem fn399 : Tryz.prog.funcs[399]? = some Tryz.f399 ∧ (Tryz.f399.name == "runtime.NumGoroutine") = false := ⟨Tryz.func399, by kernel_rfl⟩
theorem fn400 : Tryz.prog.funcs[400]? = some Tryz.f400 ∧ (Tryz.f400.name == "runtime.NumGoroutine") = false := ⟨Tryz.func400, by kernel_rfl⟩
theorem fn401 : Tryz.prog.funcs[401]? = some Tryz.f401 ∧ (Tryz.f401.name == "runtime.NumGoroutine") = false := ⟨Tryz.func401, by kernel_rfl⟩
theorem fn402 : Tryz.prog.funcs[402]? = some Tryz.f402 ∧ (Tryz.f402.name == "runtime.NumGoroutine") = false := ⟨Tryz.func402, by kernel_rfl⟩
theorem fn403 : Tryz.prog.funcs[403]? = some Tryz.f403 ∧ (Tryz.f403.name == "runtime.NumGoroutine") = false := ⟨Tryz.func403, by kernel_rfl⟩
theorem fn404 : Tryz.prog.funcs[404]? = some Tryz.f404 ∧ (Tryz.f404.name == "runtime.NumGoroutine") = false := ⟨Tryz.func404, by kernel_rfl⟩
theorem fn405 : Tryz.prog.funcs[405]? = some Tryz.f405 ∧ (Tryz.f405.name == "runtime.NumGoroutine") = false := ⟨Tryz.func405, by kernel_rfl⟩
theorem fn406 : Tryz.prog.funcs[406]? = some Tryz.f406 ∧ (Tryz.f406.name == "runtime.NumGoroutine") = false := ⟨Tryz.func406, by kernel_rfl⟩
theorem fn407 : Tryz.prog.funcs[407]? = some Tryz.f407 ∧ (Tryz.f407.name == "runtime.NumGoroutine") = false := ⟨Tryz.func407, by kernel_rfl⟩
theorem fn408 : Tryz.prog.funcs[408]? = some Tryz.f408 ∧ (Tryz.f408.name == "runtime.NumGoroutine") = false := ⟨Tryz.func408, by kernel_rfl⟩
theorem fn409 : Tryz.prog.funcs[409]? = some Tryz.f409 ∧ (Tryz.f409.name == "runtime.NumGoroutine") = false := ⟨Tryz.func409, by kernel_rfl⟩
theorem fn410 : Tryz.prog.funcs[410]? = some Tryz.f410 ∧ (Tryz.f410.name == "runtime.NumGoroutine") = false := ⟨Tryz.func410, by kernel_rfl⟩
theorem fn411 : Tryz.prog.funcs[411]? = some Tryz.f411 ∧ (Tryz.f411.name == "runtime.NumGoroutine") = false := ⟨Tryz.func411, by kernel_rfl⟩
theorem fn412 : Tryz.prog.funcs[412]? = some Tryz.f412 ∧ (Tryz.f412.name == "runtime.NumGoroutine") = false := ⟨Tryz.func412, by kernel_rfl⟩
theorem fn413 : Tryz.prog.funcs[413]? = some Tryz.f413 ∧ (Tryz.f413.name == "runtime.NumGoroutine") = false := ⟨Tryz.func413, by kernel_rfl⟩
theorem fn414 : Tryz.prog.funcs[414]? = some Tryz.f414 ∧ (Tryz.f414.name == "runtime.NumGoroutine") = false := ⟨Tryz.func414, by kernel_rfl⟩
theorem fn415 : Tryz.prog.funcs[415]? = some Tryz.f415 ∧ (Tryz.f415.name == "runtime.NumGoroutine") = false := ⟨Tryz.func415, by kernel_rfl⟩
theorem fn416 : Tryz.prog.funcs[416]? = some Tryz.f416 ∧ (Tryz.f416.name == "runtime.NumGoroutine") = false := ⟨Tryz.func416, by kernel_rfl⟩
theorem fn417 : Tryz.prog.funcs[417]? = some Tryz.f417 ∧ (Tryz.f417.name == "runtime.NumGoroutine") = false := ⟨Tryz.func417, by kernel_rfl⟩
theorem fn418 : Tryz.prog.funcs[418]? = some Tryz.f418 ∧ (Tryz.f418.name == "runtime.NumGoroutine") = false := ⟨Tryz.func418, by kernel_rfl⟩
theorem fn419 : Tryz.prog.funcs[419]? = some Tryz.f419 ∧ (Tryz.f419.name == "runtime.NumGoroutine") = false := ⟨Tryz.func419, by kernel_rfl⟩
theorem fn420 : Tryz.prog.funcs[420]? = some Tryz.f420 ∧ (Tryz.f420.name == "runtime.NumGoroutine") = false := ⟨Tryz.func420, by kernel_rfl⟩
theorem fn421 : Tryz.prog.funcs[421]? = some Tryz.f421 ∧ (Tryz.f421.name == "runtime.NumGoroutine") = false := ⟨Tryz.func421, by kernel_rfl⟩
theorem fn422 : Tryz.prog.funcs[422]? = some Tryz.f422 ∧ (Tryz.f422.name == "runtime.NumGoroutine") = false := ⟨Tryz.func422, by kernel_rfl⟩
theorem fn423 : Tryz.prog.funcs[423]? = some Tryz.f423 ∧ (Tryz.f423.name == "runtime.NumGoroutine") = false := ⟨Tryz.func423, by kernel_rfl⟩
theorem fn424 : Tryz.prog.funcs[424]? = some Tryz.f424 ∧ (Tryz.f424.name == "runtime.NumGoroutine") = false := ⟨Tryz.func424, by kernel_rfl⟩
theorem fn425 : Tryz.prog.funcs[425]? = some Tryz.f425 ∧ (Tryz.f425.name == "runtime.NumGoroutine") = false := ⟨Tryz.func425, by kernel_rfl⟩
theorem fn426 : Tryz.prog.funcs[426]? = some Tryz.f426 ∧ (Tryz.f426.name == "runtime.NumGoroutine") = false := ⟨Tryz.func426, by kernel_rfl⟩
theorem fn427 : Tryz.prog.funcs[427]? = some Tryz.f427 ∧ (Tryz.f427.name == "runtime.NumGoroutine") = false := ⟨Tryz.func427, by kernel_rfl⟩
theorem fn428 : Tryz.prog.funcs[428]? = some Tryz.f428 ∧ (Tryz.f428.name == "runtime.NumGoroutine") = false := ⟨Tryz.func428, by kernel_rfl⟩
theorem fn429 : Tryz.prog.funcs[429]? = some Tryz.f429 ∧ (Tryz.f429.name == "runtime.NumGoroutine") = false := ⟨Tryz.func429, by kernel_rfl⟩
theorem fn430 : Tryz.prog.funcs[430]? = some Tryz.f430 ∧ (Tryz.f430.name == "runtime.NumGoroutine") = false := ⟨Tryz.func430, by kernel_rfl⟩
theorem fn431 : Tryz.prog.funcs[431]? = some Tryz.f431 ∧ (Tryz.f431.name == "runtime.NumGoroutine") = false := ⟨Tryz.func431, by kernel_rfl⟩
theorem fn432 : Tryz.prog.funcs[432]? = some Tryz.f432 ∧ (Tryz.f432.name == "runtime.NumGoroutine") = false := ⟨Tryz.func432, by kernel_rfl⟩
theorem fn433 : Tryz.prog.funcs[433]? = some Tryz.f433 ∧ (Tryz.f433.name == "runtime.NumGoroutine") = false := ⟨Tryz.func433, by kernel_rfl⟩
theorem fn434 : Tryz.prog.funcs[434]? = some Tryz.f434 ∧ (Tryz.f434.name == "runtime.NumGoroutine") = false := ⟨Tryz.func434, by kernel_rfl⟩
theorem fns_ok (X : T (List AV → Option AV)) : FnsOk Tryz.prog ⟨tt, fns, X⟩ := fun _ _ h => T.all_get (p := fun f fn => Tryz.prog.funcs[f]? = some fn ∧ (fn.name == "runtime.NumGoroutine") = false) (f := id) (t := fns) ⟨trivial, ⟨trivial, ⟨fn3, ⟨fn7, ⟨fn15, ⟨fn31, ⟨fn63, ⟨fn127, ⟨fn255, trivial, trivial⟩, ⟨fn383, trivial, trivial⟩⟩, ⟨fn191, trivial, trivial⟩⟩, ⟨fn95, ⟨fn159, ⟨fn287, trivial, trivial⟩, ⟨fn415, trivial, trivial⟩⟩, ⟨fn223, ⟨fn351, trivial, trivial⟩, trivial⟩⟩⟩, ⟨fn47, ⟨fn79, ⟨fn143, ⟨fn271, trivial, trivial⟩, ⟨fn399, trivial, trivial⟩⟩, ⟨fn207, ⟨fn335, trivial, trivial⟩, trivial⟩⟩, ⟨fn111, ⟨fn175, ⟨fn303, trivial, trivial⟩, ⟨fn431, trivial, trivial⟩⟩, ⟨trivial, ⟨fn367, trivial, trivial⟩, trivial⟩⟩⟩⟩, ⟨fn23, ⟨fn39, ⟨fn71, ⟨trivial, ⟨fn263, trivial, trivial⟩, ⟨fn391, trivial, trivial⟩⟩, ⟨fn199, ⟨fn327, trivial, trivial⟩, trivial⟩⟩, ⟨fn103, ⟨fn167, ⟨fn295, trivial, trivial⟩, ⟨fn423, trivial, trivial⟩⟩, ⟨fn231, ⟨fn359, trivial, trivial⟩, trivial⟩⟩⟩, ⟨fn55, ⟨fn87, ⟨fn151, ⟨fn279, trivial, trivial⟩, ⟨fn407, trivial, trivial⟩⟩, ⟨fn215, ⟨fn343, trivial, trivial⟩, trivial⟩⟩, ⟨fn119, ⟨fn183, ⟨fn311, trivial, trivial⟩, trivial⟩, ⟨fn247, ⟨fn375, trivial, trivial⟩, trivial⟩⟩⟩⟩⟩, ⟨fn11, ⟨fn19, ⟨fn35, ⟨fn67, ⟨fn131, ⟨fn259, trivial, trivial⟩, ⟨fn387, trivial, trivial⟩⟩, ⟨fn195, ⟨fn323, trivial, trivial⟩, trivial⟩⟩, ⟨fn99, ⟨fn163, ⟨fn291, trivial, trivial⟩, ⟨fn419, trivial, trivial⟩⟩, ⟨fn227, ⟨fn355, trivial, trivial⟩, trivial⟩⟩⟩, ⟨fn51, ⟨fn83, ⟨fn147, ⟨fn275, trivial, trivial⟩, ⟨fn403, trivial, trivial⟩⟩, ⟨fn211, ⟨fn339, trivial, trivial⟩, trivial⟩⟩, ⟨fn115, ⟨fn179, ⟨fn307, trivial, trivial⟩, trivial⟩, ⟨fn243, ⟨fn371, trivial, trivial⟩, trivial⟩⟩⟩⟩, ⟨fn27, ⟨fn43, ⟨fn75, ⟨fn139, ⟨fn267, trivial, trivial⟩, ⟨fn395, trivial, trivial⟩⟩, ⟨fn203, ⟨fn331, trivial, trivial⟩, trivial⟩⟩, ⟨fn107, ⟨fn171, ⟨fn299, trivial, trivial⟩, ⟨fn427, trivial, trivial⟩⟩, ⟨trivial, ⟨fn363, trivial, trivial⟩, trivial⟩⟩⟩, ⟨fn59, ⟨fn91, ⟨fn155, ⟨fn283, trivial, trivial⟩, ⟨fn411, trivial, trivial⟩⟩, ⟨fn219, ⟨fn347, trivial, trivial⟩, trivial⟩⟩, ⟨fn123, ⟨fn187, ⟨fn315, trivial, trivial⟩, trivial⟩, ⟨fn251, ⟨fn379, trivial, trivial⟩, trivial⟩⟩⟩⟩⟩⟩, ⟨fn5, ⟨fn9, ⟨fn17, ⟨fn33, ⟨fn65, ⟨fn129, ⟨fn257, trivial, trivial⟩, trivial⟩, ⟨fn193, trivial, trivial⟩⟩, ⟨fn97, ⟨fn161, ⟨fn289, trivial, trivial⟩, ⟨fn417, trivial, trivial⟩⟩, ⟨fn225, ⟨fn353, trivial, trivial⟩, trivial⟩⟩⟩, ⟨fn49, ⟨fn81, ⟨fn145, ⟨fn273, trivial, trivial⟩, ⟨fn401, trivial, trivial⟩⟩, ⟨fn209, ⟨fn337, trivial, trivial⟩, trivial⟩⟩, ⟨fn113, ⟨fn177, ⟨fn305, trivial, trivial⟩, ⟨fn433, trivial, trivial⟩⟩, ⟨fn241, ⟨fn369, trivial, trivial⟩, trivial⟩⟩⟩⟩, ⟨fn25, ⟨fn41, ⟨fn73, ⟨fn137, ⟨fn265, trivial, trivial⟩, ⟨fn393, trivial, trivial⟩⟩, ⟨fn201, ⟨fn329, trivial, trivial⟩, trivial⟩⟩, ⟨fn105, ⟨fn169, ⟨fn297, trivial, trivial⟩, ⟨fn425, trivial, trivial⟩⟩, ⟨trivial, ⟨fn361, trivial, trivial⟩, trivial⟩⟩⟩, ⟨fn57, ⟨fn89, ⟨fn153, ⟨fn281, trivial, trivial⟩, ⟨fn409, trivial, trivial⟩⟩, ⟨fn217, ⟨fn345, trivial, trivial⟩, trivial⟩⟩, ⟨fn121, ⟨fn185, ⟨fn313, trivial, trivial⟩, trivial⟩, ⟨fn249, ⟨fn377, trivial, trivial⟩, trivial⟩⟩⟩⟩⟩, ⟨fn13, ⟨fn21, ⟨fn37, ⟨fn69, ⟨trivial, ⟨fn261, trivial, trivial⟩, ⟨fn389, trivial, trivial⟩⟩, ⟨fn197, ⟨fn325, trivial, trivial⟩, trivial⟩⟩, ⟨fn101, ⟨fn165, ⟨fn293, trivial, trivial⟩, ⟨fn421, trivial, trivial⟩⟩, ⟨fn229, ⟨fn357, trivial, trivial⟩, trivial⟩⟩⟩, ⟨fn53, ⟨fn85, ⟨fn149, ⟨fn277, trivial, trivial⟩, ⟨fn405, trivial, trivial⟩⟩, ⟨fn213, ⟨fn341, trivial, trivial⟩, trivial⟩⟩, ⟨fn117, ⟨fn181, ⟨fn309, trivial, trivial⟩, trivial⟩, ⟨fn245, ⟨fn373, trivial, trivial⟩, trivial⟩⟩⟩⟩, ⟨fn29, ⟨fn45, ⟨fn77, ⟨fn141, ⟨fn269, trivial, trivial⟩, ⟨fn397, trivial, trivial⟩⟩, ⟨fn205, ⟨fn333, trivial, trivial⟩, trivial⟩⟩, ⟨fn109, ⟨fn173, ⟨fn301, trivial, trivial⟩, ⟨fn429, trivial, trivial⟩⟩, ⟨trivial, ⟨fn365, trivial, trivial⟩, trivial⟩⟩⟩, ⟨fn61, ⟨fn93, ⟨fn157, ⟨fn285, trivial, trivial⟩, ⟨fn413, trivial, trivial⟩⟩, ⟨fn221, ⟨fn349, trivial, trivial⟩, trivial⟩⟩, ⟨fn125, ⟨fn189, ⟨fn317, trivial, trivial⟩, trivial⟩, ⟨fn253, ⟨fn381, trivial, trivial⟩, trivial⟩⟩⟩⟩⟩⟩⟩, ⟨trivial, ⟨fn4, ⟨fn8, ⟨fn16, ⟨fn32, ⟨fn64, ⟨fn128, ⟨fn256, trivial, trivial⟩, trivial⟩, ⟨fn192, trivial, trivial⟩⟩, ⟨fn96, ⟨fn160, ⟨fn288, trivial, trivial⟩, ⟨fn416, trivial, trivial⟩⟩, ⟨fn224, ⟨fn352, trivial, trivial⟩, trivial⟩⟩⟩, ⟨fn48, ⟨fn80, ⟨fn144, ⟨fn272, trivial, trivial⟩, ⟨fn400, trivial, trivial⟩⟩, ⟨fn208, ⟨fn336, trivial, trivial⟩, trivial⟩⟩, ⟨fn112, ⟨fn176, ⟨fn304, trivial, trivial⟩, ⟨fn432, trivial, trivial⟩⟩, ⟨fn240, ⟨fn368, trivial, trivial⟩, trivial⟩⟩⟩⟩, ⟨fn24, ⟨fn40, ⟨fn72, ⟨fn136, ⟨fn264, trivial, trivial⟩, ⟨fn392, trivial, trivial⟩⟩, ⟨fn200, ⟨fn328, trivial, trivial⟩, trivial⟩⟩, ⟨fn104, ⟨fn168, ⟨fn296, trivial, trivial⟩, ⟨fn424, trivial, trivial⟩⟩, ⟨fn232, ⟨fn360, trivial, trivial⟩, trivial⟩⟩⟩, ⟨fn56, ⟨fn88, ⟨fn152, ⟨fn280, trivial, trivial⟩, ⟨fn408, trivial, trivial⟩⟩, ⟨fn216, ⟨fn344, trivial, trivial⟩, trivial⟩⟩, ⟨fn120, ⟨fn184, ⟨fn312, trivial, trivial⟩, trivial⟩, ⟨fn248, ⟨fn376, trivial, trivial⟩, trivial⟩⟩⟩⟩⟩, ⟨fn12, ⟨fn20, ⟨fn36, ⟨fn68, ⟨trivial, ⟨fn260, trivial, trivial⟩, ⟨fn388, trivial, trivial⟩⟩, ⟨fn196, ⟨fn324, trivial, trivial⟩, trivial⟩⟩, ⟨fn100, ⟨fn164, ⟨fn292, trivial, trivial⟩, ⟨fn420, trivial, trivial⟩⟩, ⟨fn228, ⟨fn356, trivial, trivial⟩, trivial⟩⟩⟩, ⟨fn52, ⟨fn84, ⟨fn148, ⟨fn276, trivial, trivial⟩, ⟨fn404, trivial, trivial⟩⟩, ⟨fn212, ⟨fn340, trivial, trivial⟩, trivial⟩⟩, ⟨fn116, ⟨fn180, ⟨fn308, trivial, trivial⟩, trivial⟩, ⟨fn244, ⟨fn372, trivial, trivial⟩, trivial⟩⟩⟩⟩, ⟨fn28, ⟨fn44, ⟨fn76, ⟨fn140, ⟨fn268, trivial, trivial⟩, ⟨fn396, trivial, trivial⟩⟩, ⟨fn204, ⟨fn332, trivial, trivial⟩, trivial⟩⟩, ⟨fn108, ⟨fn172, ⟨fn300, trivial, trivial⟩, ⟨fn428, trivial, trivial⟩⟩, ⟨trivial, ⟨fn364, trivial, trivial⟩, trivial⟩⟩⟩, ⟨fn60, ⟨fn92, ⟨fn156, ⟨fn284, trivial, trivial⟩, ⟨fn412, trivial, trivial⟩⟩, ⟨fn220, ⟨fn348, trivial, trivial⟩, trivial⟩⟩, ⟨fn124, ⟨fn188, ⟨fn316, trivial, trivial⟩, trivial⟩, ⟨fn252, ⟨fn380, trivial, trivial⟩, trivial⟩⟩⟩⟩⟩⟩, ⟨fn6, ⟨fn10, ⟨fn18, ⟨fn34, ⟨fn66, ⟨fn130, ⟨fn258, trivial, trivial⟩, ⟨fn386, trivial, trivial⟩⟩, ⟨fn194, ⟨fn322, trivial, trivial⟩, trivial⟩⟩, ⟨fn98, ⟨fn162, ⟨fn290, trivial, trivial⟩, ⟨fn418, trivial, trivial⟩⟩, ⟨fn226, ⟨fn354, trivial, trivial⟩, trivial⟩⟩⟩, ⟨fn50, ⟨fn82, ⟨fn146, ⟨fn274, trivial, trivial⟩, ⟨fn402, trivial, trivial⟩⟩, ⟨fn210, ⟨fn338, trivial, trivial⟩, trivial⟩⟩, ⟨fn114, ⟨fn178, ⟨fn306, trivial, trivial⟩, ⟨fn434, trivial, trivial⟩⟩, ⟨fn242, ⟨fn370, trivial, trivial⟩, trivial⟩⟩⟩⟩, ⟨fn26, ⟨fn42, ⟨fn74, ⟨fn138, ⟨fn266, trivial, trivial⟩, ⟨fn394, trivial, trivial⟩⟩, ⟨fn202, ⟨fn330, trivial, trivial⟩, trivial⟩⟩, ⟨fn106, ⟨fn170, ⟨fn298, trivial, trivial⟩, ⟨fn426, trivial, trivial⟩⟩, ⟨trivial, ⟨fn362, trivial, trivial⟩, trivial⟩⟩⟩, ⟨fn58, ⟨fn90, ⟨fn154, ⟨fn282, trivial, trivial⟩, ⟨fn410, trivial, trivial⟩⟩, ⟨fn218, ⟨fn346, trivial, trivial⟩, trivial⟩⟩, ⟨fn122, ⟨fn186, ⟨fn314, trivial, trivial⟩, trivial⟩, ⟨fn250, ⟨fn378, trivial, trivial⟩, trivial⟩⟩⟩⟩⟩, ⟨fn14, ⟨fn22, ⟨fn38, ⟨fn70, ⟨fn134, ⟨fn262, trivial, trivial⟩, ⟨fn390, trivial, trivial⟩⟩, ⟨fn198, ⟨fn326, trivial, trivial⟩, trivial⟩⟩, ⟨fn102, ⟨fn166, ⟨fn294, trivial, trivial⟩, ⟨fn422, trivial, trivial⟩⟩, ⟨fn230, ⟨fn358, trivial, trivial⟩, trivial⟩⟩⟩, ⟨fn54, ⟨fn86, ⟨fn150, ⟨fn278, trivial, trivial⟩, ⟨fn406, trivial, trivial⟩⟩, ⟨fn214, ⟨fn342, trivial, trivial⟩, trivial⟩⟩, ⟨fn118, ⟨fn182, ⟨fn310, trivial, trivial⟩, trivial⟩, ⟨fn246, ⟨fn374, trivial, trivial⟩, trivial⟩⟩⟩⟩, ⟨fn30, ⟨fn46, ⟨fn78, ⟨fn142, ⟨fn270, trivial, trivial⟩, ⟨fn398, trivial, trivial⟩⟩, ⟨fn206, ⟨fn334, trivial, trivial⟩, trivial⟩⟩, ⟨fn110, ⟨fn174, ⟨fn302, trivial, trivial⟩, ⟨fn430, trivial, trivial⟩⟩, ⟨fn238, ⟨fn366, trivial, trivial⟩, trivial⟩⟩⟩, ⟨fn62, ⟨fn94, ⟨fn158, ⟨fn286, trivial, trivial⟩, ⟨fn414, trivial, trivial⟩⟩, ⟨fn222, ⟨fn350, trivial, trivial⟩, trivial⟩⟩, ⟨fn126, ⟨fn190, ⟨fn318, trivial, trivial⟩, trivial⟩, ⟨fn254, ⟨fn382, trivial, trivial⟩, trivial⟩⟩⟩⟩⟩⟩⟩⟩ h
end Go.Proofs.YtaocoplfdhcoaaaGreatDoor.EvA
