/- MemberRules tells true. No condition. -/
import Derived.Test.YtngohnckelceoaaM9a
import Derived.Test.YtngohnckelceoaaM9b
import Derived.Test.YtngohnckelceoaaM9c
import Derived.Test.YtngohnckelceoaaM9d
import Derived.Test.YtngohnckelceoaaM9e
import Derived.Test.YtngohnckelceoaaM9f
namespace Go.Proofs.Ytngohnckelceoaa
open Go.RowKit

theorem rules_any (f g : Fs) (w : World) : Calls Try.prog 7 #[f.val, g.val] w fun e w' => e = .returned (.bool true) ∧ Below w.heap.size w w' := by
  obtain ⟨to, self, first, sender, target, rule, auth, third, level, tl, inv, kick, ban⟩ := f
  obtain ⟨gto, gself, gfirst, gsender, gtarget, grule, gauth, gthird, glevel, gtl, ginv, gkick, gban⟩ := g
  obtain ⟨_, _, _, k4⟩ := rules_holds (Fs.mk ⟨#[106, 111, 105, 110]⟩ true false sender target rule auth third level tl inv kick ban) (Fs.mk gto gself gfirst gsender gtarget grule gauth gthird glevel gtl ginv gkick gban) rfl rfl rfl
  cases hm : (Fs.mk ⟨#[106, 111, 105, 110]⟩ true false sender target rule auth third level tl inv kick ban).mayB
  · by_cases h0 : rule.toList = [112, 117, 98, 108, 105, 99]
    · exact rules_public_false to self first sender target rule auth third level tl inv kick ban gto gself gfirst gsender gtarget grule gauth gthird glevel gtl ginv gkick gban w h0 hm
    by_cases h1 : rule.toList = [105, 110, 118, 105, 116, 101]
    · exact rules_invite_false to self first sender target rule auth third level tl inv kick ban gto gself gfirst gsender gtarget grule gauth gthird glevel gtl ginv gkick gban w h1 hm
    by_cases h2 : rule.toList = [107, 110, 111, 99, 107]
    · exact rules_knock_false to self first sender target rule auth third level tl inv kick ban gto gself gfirst gsender gtarget grule gauth gthird glevel gtl ginv gkick gban w h2 hm
    by_cases h3 : rule.toList = [114, 101, 115, 116, 114, 105, 99, 116, 101, 100]
    · exact rules_restricted_false to self first sender target rule auth third level tl inv kick ban gto gself gfirst gsender gtarget grule gauth gthird glevel gtl ginv gkick gban w h3 hm
    by_cases h4 : rule.toList = [107, 110, 111, 99, 107, 95, 114, 101, 115, 116, 114, 105, 99, 116, 101, 100]
    · exact rules_knockR_false to self first sender target rule auth third level tl inv kick ban gto gself gfirst gsender gtarget grule gauth gthird glevel gtl ginv gkick gban w h4 hm
    exact rules_other to self first sender target rule auth third level tl inv kick ban gto gself gfirst gsender gtarget grule gauth gthird glevel gtl ginv gkick gban w (by simpa using h0) (by simpa using h1) (by simpa using h2) (by simpa using h3) (by simpa using h4) hm
  · by_cases h0 : rule.toList = [112, 117, 98, 108, 105, 99]
    · exact rules_public_true to self first sender target rule auth third level tl inv kick ban gto gself gfirst gsender gtarget grule gauth gthird glevel gtl ginv gkick gban w h0 hm
    by_cases h1 : rule.toList = [105, 110, 118, 105, 116, 101]
    · exact rules_invite_true to self first sender target rule auth third level tl inv kick ban gto gself gfirst gsender gtarget grule gauth gthird glevel gtl ginv gkick gban w h1 hm
    by_cases h2 : rule.toList = [107, 110, 111, 99, 107]
    · exact rules_knock_true to self first sender target rule auth third level tl inv kick ban gto gself gfirst gsender gtarget grule gauth gthird glevel gtl ginv gkick gban w h2 hm
    by_cases h3 : rule.toList = [114, 101, 115, 116, 114, 105, 99, 116, 101, 100]
    · exact rules_restricted_true to self first sender target rule auth third level tl inv kick ban gto gself gfirst gsender gtarget grule gauth gthird glevel gtl ginv gkick gban w h3 hm
    by_cases h4 : rule.toList = [107, 110, 111, 99, 107, 95, 114, 101, 115, 116, 114, 105, 99, 116, 101, 100]
    · exact rules_knockR_true to self first sender target rule auth third level tl inv kick ban gto gself gfirst gsender gtarget grule gauth gthird glevel gtl ginv gkick gban w h4 hm
    have h := k4 hm
    simp [h0, h1, h2, h3, h4] at h

end Go.Proofs.Ytngohnckelceoaa
