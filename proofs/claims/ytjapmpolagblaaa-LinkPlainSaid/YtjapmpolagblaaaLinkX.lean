/- Link: LinkSends, LinkOpens, LinkSpoils walked. -/
import Derived.Test.YtjapmpolagblaaaLinkW
import Derived.Test.YtjapmpolagblaaaLinkL
namespace Go.Proofs.Ytjapmpolagblaaa
open Go.RowKit
attribute [local go_sem ↓] Go.wp_at_zero Go.wp_at_succ
end Go.Proofs.Ytjapmpolagblaaa
