/- All resolved codes. -/
import Derived.Test.YtfpdfjfjmockbaaC1
import Derived.Test.YtfpdfjfjmockbaaC2
