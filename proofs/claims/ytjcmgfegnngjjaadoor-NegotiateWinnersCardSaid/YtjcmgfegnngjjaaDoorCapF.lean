/- What the iterator leans on. -/
import Derived.Test.YtjcmgfegnngjjaaDoorCapE
import Derived.Test.YtjcmgfegnngjjaaDoorRow2
import Derived.Test.YtjcmgfegnngjjaaDoorNewO
